/- Contracts of functions of the program, for all arguments that they name. -/
import Derived.Test.YtoeeppojakbciaaGreatK25
import Derived.Test.YtoeeppojakbciaaGreatK28
import Derived.Test.YtoeeppojakbciaaGreatK29
namespace Go.Proofs.YtoeeppojakbciaaGreat
set_option linter.unusedVariables false
section
open Go.RowKit
structure CrOk (a1 a2 i:Nat) (c:Cr):Prop where
 name:c.name=qkQ i
 from_:0≤c.from_∧c.from_<1+a1
 to_:0≤c.to_∧c.to_<1+a1
 needL:c.need.length=1+a2
 giveL:c.give.length=1+a2
 need:∀x∈c.need,0≤x∧x≤2
 give:∀x∈c.give,0≤x∧x≤2
theorem qrG (i a1 a2:Nat){d:Dc}(h:d.ok):CrOk a1 a2 i (qfR i (1+a1) (1+a2) d).1∧(qfR i (1+a1) (1+a2) d).2.ok:=by
 have h1:=qaQ h (1+a1:Nat)
 have h2:=qaQ h1 (1+a1:Nat)
 have r1:=qa6 h (n:=(1+a1:Nat)) (by omega)
 have r2:=qa6 h1 (n:=(1+a1:Nat)) (by omega)
 have h3:=qcS (1+a2) 2 _ h2
 refine⟨⟨rfl,⟨r1.1,?_⟩,⟨r2.1,?_⟩,qc8 _ _ _,qc8 _ _ _,fun x hx=>qdI _ _ _ h2 (by omega) x hx,fun x hx=>qdI _ _ _ h3 (by omega) x hx⟩,qcS _ _ _ h3⟩
 ·have:=r1.2;simp only[qfR];omega
 ·have:=r2.2;simp only[qfR];omega
def qgb (a1 a2:Nat)(l:List Cr):Prop:=∀j,j<l.length→CrOk a1 a2 j (l.getD j default)
theorem qgb.snoc {a1 a2:Nat}{l:List Cr}(h:qgb a1 a2 l){c:Cr}(hc:CrOk a1 a2 l.length c):qgb a1 a2 (l++[c]):=by
 intro j hj
 rw[List.length_append,List.length_singleton] at hj
 by_cases hjl:j<l.length
 ·have e:(l++[c]).getD j default=l.getD j default:=by simp[List.getD_eq_getElem?_getD,List.getElem?_append_left hjl]
  rw[e];exact h j hjl
 ·have:j=l.length:=by omega
  subst this
  have e:(l++[c]).getD l.length default=c:=by simp[List.getD_eq_getElem?_getD]
  rw[e];exact hc
theorem qew (a1 a2:Nat):∀(f i:Nat) (l:List Cr) (d:Dc),d.ok→i+f=3→l.length=i→qgb a1 a2 l→qgb a1 a2 (qbH (1+a1) (1+a2) f i l d).1∧(qbH (1+a1) (1+a2) f i l d).1.length≤3
 | 0,i,l,d,_,hi,hl,h=>⟨h,by simp only[qbH];omega⟩
 | f+1,i,l,d,hd,hi,hl,h=>by
  rw[qbH]
  split
  ·have hr:=qrG i a1 a2 (qaQ hd 3)
   exact qew a1 a2 f (i+1) _ _ hr.2 (by omega) (by simp[hl]) (h.snoc (by rw[hl];exact hr.1))
  ·exact⟨h,by simp only;omega⟩
theorem qhk (a:Nat)(h:a≤1):(stN a).length=1+a:=by simp[stN];omega
theorem qg6 (a:Nat)(h:a≤1):(plN a).length=1+a:=by simp[plN];omega
theorem qff (a:UInt8):(⟨#[a]⟩:ByteArray).toList=[a]:=by
 simp[ByteArray.toList,ByteArray.toList.loop,ByteArray.size,ByteArray.get!]
theorem qmQ:(⟨#[]⟩:ByteArray).toList=[]:=by
 simp[ByteArray.toList,ByteArray.toList.loop,ByteArray.size]
theorem qln (a:UInt8)(h:letB (a.toNat:Int)=true):qho ⟨#[a]⟩=true:=by
 have e0:qch ⟨#[a]⟩ 0=(a.toNat:Int):=rfl
 have hs:(⟨#[a]⟩:ByteArray).size=1:=rfl
 have hr:runN ⟨#[a]⟩ 1 0=1:=by simp[runN,e0,qj0,h]
 rw[qho,qff,qmQ,hs,e0,h,hr]
 rfl
theorem kw1 (a:UInt8):kwS ⟨#[a]⟩=false:=by
 rw[kwS,inS,List.any_eq_false]
 intro k hk
 have hl:k.toList.length≠1:=by
  simp only[kws,List.mem_cons,List.not_mem_nil,or_false] at hk
  rcases hk with rfl | rfl | rfl | rfl | rfl | rfl | rfl | rfl | rfl | rfl | rfl | rfl | rfl | rfl | rfl | rfl | rfl | rfl<;>simp[ByteArray.toList,ByteArray.toList.loop,ByteArray.size,ByteArray.get!]
 rw[qff]
 intro h
 have:=beq_iff_eq.1 h
 rw[←this] at hl
 simp at hl
theorem qrc:∀a1 a2 k:Nat,a1≤1→a2≤1→1≤k→k≤3→newS [] (stN a1++plN a2++[]++(List.range k).map qkQ)=true:=by
 intro a1 a2 k h1 h2 h3 h4
 have e1:a1=0∨a1=1:=by omega
 have e2:a2=0∨a2=1:=by omega
 have e3:k=1∨k=2∨k=3:=by omega
 rcases e1 with rfl | rfl<;>rcases e2 with rfl | rfl<;>rcases e3 with rfl | rfl | rfl<;>simp[stN,plN,qkQ,List.range_succ,newS,qln 97 rfl,qln 98 rfl,qln 120 rfl,qln 121 rfl,qln 114 rfl,qln 115 rfl,qln 116 rfl,kw1,inS]
theorem qoo {a1 a2:Nat}{l:List Cr}(h:qgb a1 a2 l):(l.map Cr.rl).map (·.name)=(List.range l.length).map qkQ:=by
 apply List.ext_getElem (by simp)
 intro j h1 h2
 have hj:j<l.length:=by simpa using h1
 have:=(h j hj).name
 simp[List.getD_eq_getElem?_getD,hj] at this
 simp[Cr.rl,this]
theorem qh9 {a1 a2:Nat}{l:List Cr}(h:qgb a1 a2 l){c:Cr}(hc:c∈l):∃j,CrOk a1 a2 j c:=by
 obtain⟨j,hj,rfl⟩:=List.getElem_of_mem hc
 have:=h j hj
 simp[List.getD_eq_getElem?_getD,hj] at this
 exact⟨j,this⟩
theorem qrA {a1 a2:Nat}(h1:a1≤1)(h2:a2≤1)(l:List Cr)(v:List Int){c:Cr}{j:Nat}(hc:CrOk a1 a2 j c):qbU (ctMd a1 a2 l v) c.rl=true:=by
 have hs:=qhk a1 h1
 have hp:=qg6 a2 h2
 have hn:c.need.all qei=true:=List.all_eq_true.2 fun x hx=>by have:=hc.need x hx;simp[qei,btw];omega
 have hg:c.give.all qei=true:=List.all_eq_true.2 fun x hx=>by have:=hc.give x hx;simp[qei,btw];omega
 have b1:=hc.from_
 have b2:=hc.to_
 have hb:qja (ctMd a1 a2 l v) c.rl=true:=by
  simp only[qja,ctMd,Cr.rl,hs,btw]
  simp;omega
 have hch:qcO (ctMd a1 a2 l v) c.rl=true:=by
  simp only[qcO,ctMd,Cr.rl,hp,hn,hg,hc.needL,hc.giveL];simp
 have hmv:qfI (ctMd a1 a2 l v) c.rl=true:=by simp[qfI,Cr.rl]
 have hon:qkY (ctMd a1 a2 l v).kind c.rl=c.rl:=rfl
 have hsm:qnC c.rl c.rl=true:=by simp[qnC,qhU,qlg]
 rw[qbU,hb,hon,hsm,qm4,if_pos (show (ctMd a1 a2 l v).kind=1 from rfl),hch,hmv];rfl
theorem qnZ {a1 a2:Nat}(h1:a1≤1)(h2:a2≤1)(l:List Cr)(v:List Int)(hv:v.length=1+a2)(hr:∀x∈v,0≤x∧x≤3):qbg (ctMd a1 a2 l v)=true:=by
 have hs:=qhk a1 h1
 have hp:=qg6 a2 h2
 have hk:(ctMd a1 a2 l v).kind=1:=rfl
 have hty:qbb (ctMd a1 a2 l v)=qaS (qdC (qaM (1+a1:Nat)) (.mk 1 0 [] []) (1+a2)):=by
  simp only[qbb,qdy,hk]
  simp[ctMd,hs,hp]
 rw[qbg,hk,if_neg (by omega),hty]
 have e1:a1=0∨a1=1:=by omega
 have e2:a2=0∨a2=1:=by omega
 show qdl _ (cfV 0 v)=true
 rcases e2 with rfl | rfl
 ·obtain⟨x,rfl⟩:∃x,v=[x]:=by
   match v,hv with
   | [x],_=>exact⟨x,rfl⟩
  have:=hr x (by simp)
  rcases e1 with rfl | rfl<;>simp[qdl,qb6,qaC,qaY,qaS,qdC,qaM,cfV,natV,qbN,qc0,ofV,qda,V.n,V.kids]<;>exact⟨by omega,decide_eq_true (show x≤1048576 by omega)⟩
 ·obtain⟨x,y,rfl⟩:∃x y,v=[x,y]:=by
   match v,hv with
   | [x,y],_=>exact⟨x,y,rfl⟩
  have:=hr x (by simp)
  have:=hr y (by simp)
  rcases e1 with rfl | rfl<;>simp[qdl,qb6,qaC,qaY,qaS,qdC,qaM,cfV,natV,qbN,qc0,ofV,qda,V.n,V.kids]<;>exact⟨⟨by omega,decide_eq_true (show x≤1048576 by omega)⟩,by omega,decide_eq_true (show y≤1048576 by omega)⟩
theorem qlv {a1 a2:Nat}(h1:a1≤1)(h2:a2≤1)(l:List Cr)(v:List Int)(hl:l.length≤3)(hl0:l≠[])(hc:qgb a1 a2 l)(hv:v.length=1+a2)(hr:∀x∈v,0≤x∧x≤3):qaV (ctMd a1 a2 l v)=0:=by
 have hs:=qhk a1 h1
 have hp:=qg6 a2 h2
 have hpos:1≤l.length:=by cases l with | nil=>exact absurd rfl hl0 | cons x l=>simp
 have c1:btw (ctMd a1 a2 l v).kind 1 6=true:=rfl
 have c2:qaR (ctMd a1 a2 l v)=true:=by
  simp[qaR,ctMd,limC,btw,hs,hp];omega
 have c3:qcT (ctMd a1 a2 l v)=true:=rfl
 have c4:qgY (ctMd a1 a2 l v)=true:=by
  rw[qgY,qa7]
  show newS [] (stN a1++plN a2++[]++(l.map Cr.rl).map (·.name))=true
  rw[qoo hc];exact qrc a1 a2 l.length h1 h2 hpos hl
 have c5:((ctMd a1 a2 l v).rules.any fun r=>!qbU (ctMd a1 a2 l v) r)=false:=by
  rw[List.any_eq_false]
  intro r hr'
  obtain⟨c,hcm,rfl⟩:=List.mem_map.1 hr'
  obtain⟨j,hj⟩:=qh9 hc hcm
  rw[qrA h1 h2 l v hj];simp
 have c6:=qnZ h1 h2 l v hv hr
 rw[qaV,c1,c2,c3,c4,c5,c6];simp
theorem qmp (a1 a2:Nat)(l:List Cr)(v:List Int):qmo (ctMd a1 a2 l v)=true:=by
 have:((ctMd a1 a2 l v).rules.any fun r=>decide ((r.move.length:Int) > 0))=false:=by
  rw[List.any_eq_false]
  intro r hr
  obtain⟨c,_,rfl⟩:=List.mem_map.1 hr
  simp[Cr.rl]
 rw[qmo,this];rfl
theorem qfZ (x:Int):(natV x).fit:=by simp[V.fit,fitL]
theorem qsk {a1 a2:Nat}(h1:a1≤1)(h2:a2≤1)(l:List Cr)(v:List Int)(hl:l.length≤3)(hc:qgb a1 a2 l)(hv:v.length=1+a2):(ctMd a1 a2 l v).fit:=by
 have hs:=qhk a1 h1
 have hp:=qg6 a2 h2
 refine⟨by simp[ctMd,hs];omega,by simp[ctMd,hp];omega,by simp[ctMd],by simp[ctMd],by simp[ctMd];omega,fun r hr=>?_,?_,fun s hs=>?_,rfl⟩
 ·obtain⟨c,hcm,rfl⟩:=List.mem_map.1 hr
  obtain⟨j,hj⟩:=qh9 hc hcm
  have n1:=hj.needL
  have n2:=hj.giveL
  have n3:c.name.size≤1:=by
   rw[hj.name]
   match j with
   | 0=>exact Nat.le_refl 1
   | 1=>exact Nat.le_refl 1
   | _+2=>exact Nat.le_refl 1
  exact⟨by simp[Cr.rl];omega,by simp[Cr.rl];omega,by simp[Cr.rl],by simp[Cr.rl],by simp[Cr.rl],by simp[Cr.rl],by simp[Cr.rl],by simp only[Cr.rl];omega⟩
 ·show (cfV 0 v).fit
  refine⟨by simp;omega,qkG fun k hk=>?_⟩
  rcases List.mem_cons.1 hk with rfl | hk
  ·exact qfZ 0
  ·obtain⟨x,_,rfl⟩:=List.mem_map.1 hk
   exact qfZ x
 ·have hsz:∀x∈[(⟨#[97]⟩:ByteArray),⟨#[98]⟩,⟨#[120]⟩,⟨#[121]⟩],x.size≤1000000:=fun x hx=>by
   simp only[List.mem_cons,List.not_mem_nil,or_false] at hx
   rcases hx with rfl | rfl | rfl | rfl<;>simp[ByteArray.size]
  simp only[ctMd,List.append_nil,List.mem_append] at hs
  rcases hs with h | h
  ·have:=List.mem_of_mem_take h
   exact hsz s (by simp at this ⊢;rcases this with h | h<;>simp[h])
  ·have:=List.mem_of_mem_take h
   exact hsz s (by simp at this ⊢;rcases this with h | h<;>simp[h])
theorem qmx {a1 a2:Nat}(l:List Cr)(v:List Int)(hc:qgb a1 a2 l):qbl (1+a2) (ctMd a1 a2 l v).rules:=by
 intro r hr
 obtain⟨c,hcm,rfl⟩:=List.mem_map.1 hr
 obtain⟨j,hj⟩:=qh9 hc hcm
 have key:∀(w:List Int),(∀x∈w,0≤x∧x≤2)→∀k,0≤w.getD k 0∧w.getD k 0≤1048576:=fun w hw k=>by
  by_cases hk:k<w.length
  ·have:=hw w[k] (List.getElem_mem hk)
   simp[List.getD_eq_getElem?_getD,hk];omega
  ·rw[qbk (by omega)];omega
 exact⟨⟨hj.needL,hj.giveL⟩,fun k=>⟨key _ hj.need k,key _ hj.give k⟩⟩
theorem qmH {w:List Int}(hw:∀x∈w,0≤x∧x≤3):VecOk w.length w:=by
 refine⟨rfl,fun k=>?_⟩
 by_cases hk:k<w.length
 ·have:=hw w[k] (List.getElem_mem hk)
  simp[List.getD_eq_getElem?_getD,hk];omega
 ·rw[qbk (by omega)];omega
structure CtOk (d:Dc):Prop where
 fit:(qfl d).fit
 check:qaV (qfl d)=0
 counts:qbW (qfl d)=0
 rules:qbl (1+(ctD d).1.2.1) (qfl d).rules
 start:(qfl d).start=cfV 0 (ctD d).1.2.2.2
 vec:VecOk (1+(ctD d).1.2.1) (ctD d).1.2.2.2
 a2:(ctD d).1.2.1≤1
 dok:(ctD d).2.ok
theorem qqB {d:Dc}(h:d.ok):CtOk d:=by
 have r1:=qa6 h (n:=2) (by omega)
 have h1:=qaQ h 2
 have r2:=qa6 h1 (n:=2) (by omega)
 have h2:=qaQ h1 2
 have hsp:=qew (qar d 2).1.toNat (qar (qar d 2).2 2).1.toNat 3 0 [] _ h2 rfl rfl (fun j hj=>by simp at hj)
 have hpos:=qhR (1+(qar d 2).1.toNat) (1+(qar (qar d 2).2 2).1.toNat) h2
 have hrok:=qe7 (1+(qar d 2).1.toNat) (1+(qar (qar d 2).2 2).1.toNat) 3 0 [] _ h2
 have hv:=qc8 (1+(qar (qar d 2).2 2).1.toNat) 3 (qbH (1+(qar d 2).1.toNat) (1+(qar (qar d 2).2 2).1.toNat) 3 0 [] (qar (qar d 2).2 2).2).2
 have hvr:=qdI (1+(qar (qar d 2).2 2).1.toNat) 3 _ hrok (by omega)
 have b1:(qar d 2).1.toNat≤1:=by omega
 have b2:(qar (qar d 2).2 2).1.toNat≤1:=by omega
 have hck:=qlv b1 b2 _ _ hsp.2 hpos hsp.1 hv hvr
 refine⟨qsk b1 b2 _ _ hsp.2 hsp.1 hv,hck,?_,qmx _ _ hsp.1,rfl,(by have:=qmH hvr;rw[hv] at this;exact this),b2,qcS _ _ _ hrok⟩
 rw[qbW,if_neg (fun hn=>hn hck)]
 exact if_pos (qmp _ _ _ _)
end
section
open Go.RowKit
set_option maxHeartbeats 2000000
attribute [local simp] qae qaJ qa2
def crS:Cr:=⟨⟨#[114]⟩,0,0,[0],[1]⟩
def mS:Md:=ctMd 0 0 [crS] [0]
def tS:List Nn:=[⟨0,[0],-1,-1⟩,⟨0,[1099511627776],0,0⟩,⟨0,[1099511627776],1,0⟩]
theorem qon:qgb 0 0 [crS]:=fun j hj=>by
 have:j=0:=by simpa using hj
 subst this
 exact⟨rfl,by decide,by decide,rfl,rfl,by decide,by decide⟩
theorem qsp:mS.fit:=qsk (by omega) (by omega) _ _ (by simp) qon rfl
theorem qq7:qaV mS=0:=qlv (by omega) (by omega) _ _ (by simp) (by simp) qon rfl (by decide)
theorem qjS:qbW mS=0:=by
 rw[qbW,if_neg (fun hn=>hn qq7)]
 exact if_pos (qmp _ _ _ _)
theorem qdN {N:Nat}{s:Int}{v:List Int}(h:VecOk N v):TreeG N [qdf s v]:=by
 have one:∀j,j < [qdf s v].length→[qdf s v].getD j default=qdf s v:=fun j hj=>by
  have:j=0:=by simpa using hj
  subst this;rfl
 exact⟨⟨fun j hj=>by rw[one j hj];simp[qdf];omega,by simp,fun j hj=>by rw[one j hj];exact h.len⟩,fun j hj=>by rw[one j hj];exact h⟩
theorem tS_run:runM mS 9 [qdf 0 [0]] 0 0=(tS,3,3,0):=by kernel_rfl
theorem tS_lim:limF tS=[⟨0,[1099511627776]⟩]:=by kernel_rfl
theorem qt0:qeZ tS 2=[0,0]:=by kernel_rfl
theorem tS_par:Par tS:=by
 intro j hj
 have hj3:j<3:=hj
 match j,hj3 with
 | 0,_=>decide
 | 1,_=>decide
 | 2,_=>decide
theorem tS_vec:∀j,j<tS.length→(tS.getD j default).vec≠[]∧(tS.getD j default).vec.length≤1000000:=by
 intro j hj
 have hj3:j<3:=hj
 match j,hj3 with
 | 0,_=>decide
 | 1,_=>decide
 | 2,_=>decide
abbrev mSr:List T:=[.int .i64 1,.sl 100 1 0 0 1,.sl 101 1 0 0 1,.nil,.nil,.int .i64 0,.int .i64 0,.sl 105 14 14 0 1,.int .i64 0,.sl 108 4 2 0 2]
theorem mS_fz {H:Heap}(h0:H 100=.live ⟨9,[.str ⟨#[97]⟩]⟩)(h1:H 101=.live ⟨9,[.str ⟨#[120]⟩]⟩)(h2:H 102=.live ⟨3,[.int .i64 0]⟩)(h3:H 103=.live ⟨3,[.int .i64 1]⟩)
 (h5:H 105=.live ⟨66,[.str ⟨#[114]⟩,.int .i64 0,.int .i64 0,.sl 102 1 0 0 1,.sl 103 1 0 0 1,.nil,.int .i64 0,.int .i64 0,.int .i64 0,.nil,.nil,.nil,.nil,.int .i64 0]⟩) (h8:H 108=.live ⟨31,[.int .i64 0,.nil,.int .i64 0,.nil]⟩) :
 SlotFz H (inL [111]) (.live ⟨33,mSr⟩) (sMg mS):=by
 have f0:Fz H (inL [111]) (.sl 100 1 0 0 1) (.list [.str ⟨#[97]⟩]):=.slL h0 rfl rfl rfl rfl rfl rfl (.cons (.same rfl) .nil)
 have f1:Fz H (inL [111]) (.sl 101 1 0 0 1) (.list [.str ⟨#[120]⟩]):=.slL h1 rfl rfl rfl rfl rfl rfl (.cons (.same rfl) .nil)
 have f2:Fz H (inL [111]) (.sl 102 1 0 0 1) (.list [.int .i64 0]):=.slL h2 rfl rfl rfl rfl rfl rfl (.cons (.same rfl) .nil)
 have f3:Fz H (inL [111]) (.sl 103 1 0 0 1) (.list [.int .i64 1]):=.slL h3 rfl rfl rfl rfl rfl rfl (.cons (.same rfl) .nil)
 have f5:Fz H (inL [111]) (.sl 105 14 14 0 1) (.list [.agg [.str ⟨#[114]⟩,.int .i64 0,.int .i64 0,.list [.int .i64 0],.list [.int .i64 1],.list [],.int .i64 0,.int .i64 0,.int .i64 0,.list [],.list [],.list [],.list [],.int .i64 0]]):=
  .slL h5 rfl rfl rfl rfl rfl rfl (.cons (.same rfl) (.cons (.same rfl) (.cons (.same rfl) (.cons f2 (.cons f3 (.cons .nil (.cons (.same rfl) (.cons (.same rfl) (.cons (.same rfl) (.cons .nil (.cons .nil (.cons .nil (.cons .nil (.cons (.same rfl) .nil))))))))))))))
 have f8:Fz H (inL [111]) (.sl 108 4 2 0 2) (.list [.agg [.int .i64 0,.list []],.agg [.int .i64 0,.list []]]):=.slL h8 rfl rfl rfl rfl rfl rfl (.cons (.same rfl) (.cons .nil (.cons (.same rfl) (.cons .nil .nil))))
 have e:mdC mS=[.int .i64 1,.list [.str ⟨#[97]⟩],.list [.str ⟨#[120]⟩],.list [],.list [],.int .i64 0,.int .i64 0,.list [.agg [.str ⟨#[114]⟩,.int .i64 0,.int .i64 0,.list [.int .i64 0],.list [.int .i64 1],.list [],.int .i64 0,.int .i64 0,.int .i64 0,.list [],.list [],.list [],.list [],.int .i64 0]],.int .i64 0,.list [.agg [.int .i64 0,.list []],.agg [.int .i64 0,.list []]]]:=rfl
 show SlotFz H (inL [111]) (.live ⟨33,mSr⟩) (.live ⟨33,mdC mS⟩)
 rw[e]
 exact .liveL (.cons (.same rfl) (.cons f0 (.cons f1 (.cons .nil (.cons .nil (.cons (.same rfl) (.cons (.same rfl) (.cons f5 (.cons (.same rfl) (.cons f8 .nil)))))))))) rfl
set_option maxHeartbeats 4000000 in
theorem qex:TP Tryz.prog 6 [] (.bool true):=by
 have hv:VecOk 1 [0]:=qmH (w:=[0]) (by decide)
 have hst:=qf8 mS qsp qjS 0 [0] rfl (by simp)
 have hrn:=qij mS qsp qjS 1 (by omega) (by omega) (qmx _ _ qon) 9 (by omega) [qdf 0 [0]] 0 (qdN hv)
 rw[tS_run] at hrn
 have hli:=qgV tS 3 (by simp[tS]) (by simp[tS]) tS_vec
 rw[tS_lim] at hli
 have hdn:=qia tS 3
 have hdb:decide ((3:Int)≥(tS.length:Int))=true:=rfl
 rw[hdb] at hdn
 have hcv:=qeI [⟨0,[1099511627776]⟩] (by simp) (by simp) 0 [7] (by simp)
 have hcb:covL [⟨0,[1099511627776]⟩] 0 [7]=true:=rfl
 rw[hcb] at hcv
 have hpt:=qpg tS 3 tS_par (by simp[tS]) 2 (by simp[tS])
 rw[qt0] at hpt
 have hr1:List.drop 1 (repl 1 [T.str ⟨#[]⟩])=[]:=rfl
 have hr2:List.drop 1 (repl 1 [T.int .i64 0])=[]:=rfl
 have hr3:∀x:List T,x.length=14→List.drop 14 (repl 1 x)=[]:=fun x hx=>by simp[repl,hx]
 have htl:(qbj tS).length=3:=rfl
 generalize tS=t at*
 simp only[qbs,grC,qas,runT] at hst hrn hli hdn hpt ⊢
 have fX:=(cJ3 @qaK @qhd @htl)
 refine qah fn6 (by simp) ?_
 unfold i6
 simp only[argL]
 refine wR0 0 [] fX ?_
 refine wR0 100 [1] fX ?_
 simp only[thn]
 refine qfP (l':=[(1,.ref 111 10 0)]) (hl':=[(100,.dead),(101,.dead),(102,.dead),(103,.dead),(105,.dead),(108,.dead),(111,sMg mS)]) [111] (.cons (.same rfl) .nil) (.dead rfl (fun h=>by cases h) (.dead rfl (fun h=>by cases h) (.dead rfl (fun h=>by cases h) (.dead rfl (fun h=>by cases h) (.dead rfl (fun h=>by cases h) (.dead rfl (fun h=>by cases h) (.keep rfl (mS_fz rfl rfl rfl rfl rfl rfl) .nil))))))) ?_
 refine wRn 200 [1,2,3] fX ?_
 refine rC fX ?_
 refine⟨_,hst,rE fX ?_⟩
 refine wRn 300 [2,3,4,5] fX ?_
 refine rC fX ?_
 refine⟨_,hrn,rE fX ?_⟩
 refine wRn 400 [2,3,4,5,6] fX ?_
 refine rC fX ?_
 refine⟨_,hli,rE fX ?_⟩
 refine wRn 500 [0] fX ?_
 refine rC fX ?_
 refine⟨_,hdn,rN fX ?_⟩
 refine rL [(536,.live ⟨3,qac [7]⟩)] fX ?_
 refine⟨_,_,hcv,(by exact FrzL.cons (.same (by simp[T.fro,T.cl])) (FrzL.cons (.same rfl) (FrzL.cons (qbx [7] rfl rfl rfl) FrzL.nil))),rfl,rN fX ?_⟩
 refine rC fX ?_
 refine⟨_,hpt,rE fX ?_⟩
 refine wP ?_
 exact .same rfl
end
end Go.Proofs.YtoeeppojakbciaaGreat
