/- Contracts of functions of the program, for all arguments that they name. -/
import Derived.Test.YtncpdpbpcnoeeaaGreatK19
import Derived.Test.YtncpdpbpcnoeeaaGreatK23
import Derived.Test.YtncpdpbpcnoeeaaGreatK24
namespace Go.Proofs.YtncpdpbpcnoeeaaGreat
set_option linter.unusedVariables false
section
open Go.RowKit
set_option maxHeartbeats 2000000
attribute [local simp] qae qaz qbD qjj
def stN (a:Nat):List ByteArray:=[(⟨#[97]⟩:ByteArray),⟨#[98]⟩].take (1+a)
def plN (a:Nat):List ByteArray:=[(⟨#[120]⟩:ByteArray),⟨#[121]⟩].take (1+a)
def ctMd (a1 a2:Nat)(l:List Cr)(v:List Int):Md:=⟨1,stN a1,plN a2,[],[],0,0,l.map Cr.rl,cfV 0 v⟩
def ctD (d:Dc):(Nat×Nat×List Cr×List Int)×Dc:=
 let a1:=(qaq d 2).1.toNat
 let a2:=(qaq (qaq d 2).2 2).1.toNat
 let R:=qbp (1+a1) (1+a2) 3 0 [] (qaq (qaq d 2).2 2).2
 ((a1,a2,R.1,(qbn (1+a2) 3 R.2).1),(qbn (1+a2) 3 R.2).2)
def qho (d:Dc):Md:=ctMd (ctD d).1.1 (ctD d).1.2.1 (ctD d).1.2.2.1 (ctD d).1.2.2.2
theorem qfI (ns n:Nat):∀(f i:Nat) (l:List Cr) (d:Dc),d.ok→(qbp ns n f i l d).2.ok
 | 0,_,_,d,h=>qaQ h 3
 | f+1,i,l,d,h=>by
  rw[qbp]
  split
  ·exact qfI ns n f _ _ _ (qcd _ _ _ (qcd _ _ _ (qaQ (qaQ (qaQ h _) _) _)))
  ·exact qaQ h 3
theorem fz_st {H:Heap}{D:Nat→Bool}{id ty:Nat}(x y:ByteArray)(a:Nat)(ha:a≤1)(hd:D id=false)(hb:H id=.live ⟨ty,[.str x,.str y]⟩):Fz H D (.sl id 2 0 0 (1+a)) (.list (qar ([x,y].take (1+a)))):=by
 have:a=0∨a=1:=by omega
 rcases this with rfl | rfl
 ·refine .sl hb hd rfl (by simp[esz]) rfl (fun c hc=>?_) (fun c hc=>?_) fun k hk=>?_
  ·simp[qar] at hc;subst hc;rfl
  ·simp[qar,flat,T.cells] at hc;subst hc;rfl
  ·have:k=0:=by simpa [esz] using hk
   subst this;exact .same rfl
 ·refine .sl hb hd rfl (by simp[esz]) rfl (fun c hc=>?_) (fun c hc=>?_) fun k hk=>?_
  ·simp[qar] at hc;rcases hc with rfl | rfl<;>rfl
  ·simp[qar,flat,T.cells] at hc;rcases hc with rfl | rfl<;>rfl
  ·have:k<2:=by simpa [esz] using hk
   match k,this with
   | 0,_=>exact .same rfl
   | 1,_=>exact .same rfl
theorem fz_md {H:Heap}{D:Nat→Bool}(a1 a2:Nat)(h1:a1≤1)(h2:a2≤1)(z:Cr)(zs:List Cr)(v:List Int)(d0:D 100=false)(d1:D 105=false)(d2:D 1104=false)
 (hb0:H 100=qoM ⟨#[97]⟩ ⟨#[98]⟩) (hb1:H 105=qoM ⟨#[120]⟩ ⟨#[121]⟩) (hb2:H 1104=.live ⟨66,(z::zs).flatMap crC⟩) :
 Fz H D (.agg [.int .i64 1,.sl 100 2 0 0 (1+a1),.sl 105 2 0 0 (1+a2),.nil,.nil,.int .i64 0,.int .i64 0,.sl 1104 ((zs.length+1)*14) 14 0 (zs.length+1),.int .i64 0,.list (encV (natV 0)::qaj (v.map natV))]) (qaA (ctMd a1 a2 (z::zs) v)):=by
 refine .agg rfl (qdh _) fun k hk=>?_
 match k,hk with
 | 0,_=>exact .same rfl
 | 1,_=>exact fz_st _ _ a1 h1 d0 hb0
 | 2,_=>exact fz_st _ _ a2 h2 d1 hb1
 | 3,_=>exact .nil
 | 4,_=>exact .nil
 | 5,_=>exact .same rfl
 | 6,_=>exact .same rfl
 | 7,_=>exact fz_crs (z::zs) d2 hb2
 | 8,_=>exact .same rfl
 | 9,_=>exact .same (by show T.cl D (.list (encV (natV 0)::qaj (v.map natV)))=true;simp[T.cl,clL,qaz,qbS])
theorem qgk (ns n:Nat){d:Dc}(h:d.ok):(qbp ns n 3 0 [] d).1≠[]:=by
 have hr:=qbi h (n:=3) (by omega)
 have hlen:∀(f i:Nat) (l:List Cr) (d:Dc),l.length≤(qbp ns n f i l d).1.length:=by
  intro f
  induction f with
  | zero=>intro i l d;exact Nat.le_refl _
  | succ f ih=>
   intro i l d
   rw[qbp]
   split
   ·have:=ih (i+1) (l++[(qeF i ns n (qaq d 3).2).1]) (qeF i ns n (qaq d 3).2).2
    simp at this;omega
   ·exact Nat.le_refl _
 rw[qbp,if_pos (by omega)]
 intro e
 have:=hlen 2 (0+1) ([]++[(qeF 0 ns n (qaq d 3).2).1]) (qeF 0 ns n (qaq d 3).2).2
 rw[e] at this
 simp at this
set_option maxHeartbeats 8000000 in
theorem qkm (d:Dc)(hd:d.ok):TC Tryz.prog 9 [dcR,.bool false] (hpL [(99999,dcB d)]) (qaA (qho d)) (hpL [(99999,dcB (ctD d).2)]):=by
 have hp1:=qdD d hd 2 (by omega)
 have hr1:=qbi hd (n:=2) (by omega)
 have hok1:=qaQ hd 2
 have hp2:=qdD _ hok1 2 (by omega)
 have hr2:=qbi hok1 (n:=2) (by omega)
 have hok2:=qaQ hok1 2
 obtain⟨a1,ha1⟩:=Int.eq_ofNat_of_zero_le hr1.1
 obtain⟨a2,ha2⟩:=Int.eq_ofNat_of_zero_le hr2.1
 have e:ctD d=((a1,a2,(qbp (1+a1) (1+a2) 3 0 [] (qaq (qaq d 2).2 2).2).1,(qbn (1+a2) 3 (qbp (1+a1) (1+a2) 3 0 [] (qaq (qaq d 2).2 2).2).2).1),(qbn (1+a2) 3 (qbp (1+a1) (1+a2) 3 0 [] (qaq (qaq d 2).2 2).2).2).2):=by
  simp only[ctD,ha1,ha2,Int.toNat_natCast]
 rw[qho,e]
 simp only
 have hrp:=qgk (1+a1) (1+a2) hok2
 have hrok:=qfI (1+a1) (1+a2) 3 0 [] _ hok2
 rw[ha1] at hr1 hp1
 rw[ha2] at hr2 hp2
 have h1:a1≤1:=by omega
 have h2:a2≤1:=by omega
 obtain⟨e2,he2⟩:∃e2,(qaq (qaq d 2).2 2).2=e2:=⟨_,rfl⟩
 rw[he2] at hp2 hok2 hrp hrok ⊢
 obtain⟨R,hR⟩:∃R,qbp (1+a1) (1+a2) 3 0 [] e2=R:=⟨_,rfl⟩
 have hL:=fun Q h=>qly a1 a2 (1+a2) h1 h2 rfl R Q h 3 0 [] e2 hok2 rfl rfl hR
 rw[hR] at hrp hrok ⊢
 obtain⟨L,d3⟩:=R
 cases L with
 | nil=>exact absurd rfl hrp
 | cons z zs=>
  have hin:=qiD (1+a2) (by omega) (by omega) 3 (by omega) d3 hrok
  have hcf:=qkK 0 (qbn (1+a2) 3 d3).1 (by rw[qcs];omega)
  rw[qgs] at hcf
  have hw1:IntKind.wrap .i64 (1+(a1:Int))=((1+a1:Nat):Int):=by rw[wrap64 (by omega) (by omega)];simp
  have hw2:IntKind.wrap .i64 (1+(a2:Int))=((1+a2:Nat):Int):=by rw[wrap64 (by omega) (by omega)];simp
  have hr2':List.drop 1 (List.drop 1 (repl 2 [T.str ⟨#[]⟩]))=[]:=rfl
  have hz1:(if 0=((1+a1:Nat):Int).toNat then T.list [] else T.sl 100 2 0 0 (((1+a1:Nat):Int).toNat - 0))=T.sl 100 2 0 0 (1+a1):=by rw[if_neg (by omega),Int.toNat_natCast,Nat.sub_zero]
  have hz2:(if 0=((1+a2:Nat):Int).toNat then T.list [] else T.sl 105 2 0 0 (((1+a2:Nat):Int).toNat - 0))=T.sl 105 2 0 0 (1+a2):=by rw[if_neg (by omega),Int.toNat_natCast,Nat.sub_zero]
  have hb1:1+a1≤2:=by omega
  have hb2:1+a2≤2:=by omega
  generalize (qbn (1+a2) 3 d3).1=v at*
  generalize (qbn (1+a2) 3 d3).2=d4 at*
  generalize (qaq d 2).2=d2 at*
  simp only[ctE,ctH,modC,qos,qor,List.cons_append,List.nil_append,List.append_nil] at hL
  have fX:=(cJ7 @hw1 @hw2 @hr2' @hz1 @hz2 @hb1 @hb2)
  refine qoR fn9 (by simp) ?_
  unfold i9
  simp only[argL]
  refine wR0 0 [0,1,4] fX ?_
  refine wRn 100 [0,1,4,5] fX ?_
  refine rU [(99999,dcB d)] [(99999,dcB d2)] fX ?_
  refine⟨_,hp1.fulD,rN fX ?_⟩
  refine rU [(99999,dcB d2)] [(99999,dcB e2)] fX ?_
  refine⟨_,hp2.fulD,rE fX ?_⟩
  refine wR0 200 [0,1,4,5,6] fX ?_
  refine wR0 300 [0,1,4,5,6,7] fX ?_
  refine wL ?_
  refine hL _ ?_
  ·intro i
   refine wN ?_
   refine wRn 1300 [4,5] fX ?_
   refine rU [(99999,dcB d3)] [(99999,dcB d4)] fX ?_
   refine⟨_,hin.fulD,rN fX ?_⟩
   refine rC fX ?_
   refine⟨_,hcf,rE fX ?_⟩
   refine wR0 1400 [4] fX ?_
   refine wE ?_
   refine wN ?_
   exact⟨by simp,_,_,_,rfl,rfl,fz_md a1 a2 h1 h2 z zs v rfl rfl rfl rfl rfl rfl,.keep rfl (qo0 d4) (.dead rfl (fun h=>by cases h) (.dead rfl (fun h=>by cases h) (.dead rfl (fun h=>by cases h) (.dead rfl (fun h=>by cases h) (.dead rfl (fun h=>by cases h) .nil))))),rfl⟩
end
section
open Go.RowKit
structure CrOk (a1 a2 i:Nat) (c:Cr):Prop where
 name:c.name=qiH i
 from_:0≤c.from_∧c.from_<1+a1
 to_:0≤c.to_∧c.to_<1+a1
 needL:c.need.length=1+a2
 giveL:c.give.length=1+a2
 need:∀x∈c.need,0≤x∧x≤2
 give:∀x∈c.give,0≤x∧x≤2
theorem qot (i a1 a2:Nat){d:Dc}(h:d.ok):CrOk a1 a2 i (qeF i (1+a1) (1+a2) d).1∧(qeF i (1+a1) (1+a2) d).2.ok:=by
 have h1:=qaQ h (1+a1:Nat)
 have h2:=qaQ h1 (1+a1:Nat)
 have r1:=qbi h (n:=(1+a1:Nat)) (by omega)
 have r2:=qbi h1 (n:=(1+a1:Nat)) (by omega)
 have h3:=qcd (1+a2) 2 _ h2
 refine⟨⟨rfl,⟨r1.1,?_⟩,⟨r2.1,?_⟩,qcs _ _ _,qcs _ _ _,fun x hx=>qdV _ _ _ h2 (by omega) x hx,fun x hx=>qdV _ _ _ h3 (by omega) x hx⟩,qcd _ _ _ h3⟩
 ·have:=r1.2;simp only[qeF];omega
 ·have:=r2.2;simp only[qeF];omega
def qeS (a1 a2:Nat)(l:List Cr):Prop:=∀j,j<l.length→CrOk a1 a2 j (l.getD j default)
theorem qeS.snoc {a1 a2:Nat}{l:List Cr}(h:qeS a1 a2 l){c:Cr}(hc:CrOk a1 a2 l.length c):qeS a1 a2 (l++[c]):=by
 intro j hj
 rw[List.length_append,List.length_singleton] at hj
 by_cases hjl:j<l.length
 ·have e:(l++[c]).getD j default=l.getD j default:=by simp[List.getD_eq_getElem?_getD,List.getElem?_append_left hjl]
  rw[e];exact h j hjl
 ·have:j=l.length:=by omega
  subst this
  have e:(l++[c]).getD l.length default=c:=by simp[List.getD_eq_getElem?_getD]
  rw[e];exact hc
theorem qfJ (a1 a2:Nat):∀(f i:Nat) (l:List Cr) (d:Dc),d.ok→i+f=3→l.length=i→qeS a1 a2 l→qeS a1 a2 (qbp (1+a1) (1+a2) f i l d).1∧(qbp (1+a1) (1+a2) f i l d).1.length≤3
 | 0,i,l,d,_,hi,hl,h=>⟨h,by simp only[qbp];omega⟩
 | f+1,i,l,d,hd,hi,hl,h=>by
  rw[qbp]
  split
  ·have hr:=qot i a1 a2 (qaQ hd 3)
   exact qfJ a1 a2 f (i+1) _ _ hr.2 (by omega) (by simp[hl]) (h.snoc (by rw[hl];exact hr.1))
  ·exact⟨h,by simp only;omega⟩
theorem qg7 (a:Nat)(h:a≤1):(stN a).length=1+a:=by simp[stN];omega
theorem qgZ (a:Nat)(h:a≤1):(plN a).length=1+a:=by simp[plN];omega
theorem qea (a:UInt8):(⟨#[a]⟩:ByteArray).toList=[a]:=by
 simp[ByteArray.toList,ByteArray.toList.loop,ByteArray.size,ByteArray.get!]
theorem qkh:(⟨#[]⟩:ByteArray).toList=[]:=by
 simp[ByteArray.toList,ByteArray.toList.loop,ByteArray.size]
theorem qi5 (a:UInt8)(h:letB (a.toNat:Int)=true):qi6 ⟨#[a]⟩=true:=by
 have e0:qdq ⟨#[a]⟩ 0=(a.toNat:Int):=rfl
 have hs:(⟨#[a]⟩:ByteArray).size=1:=rfl
 have hr:runN ⟨#[a]⟩ 1 0=1:=by simp[runN,e0,qqg,h]
 rw[qi6,qea,qkh,hs,e0,h,hr]
 rfl
theorem kw1 (a:UInt8):kwS ⟨#[a]⟩=false:=by
 rw[kwS,inS,List.any_eq_false]
 intro k hk
 have hl:k.toList.length≠1:=by
  simp only[kws,List.mem_cons,List.not_mem_nil,or_false] at hk
  rcases hk with rfl | rfl | rfl | rfl | rfl | rfl | rfl | rfl | rfl | rfl | rfl | rfl | rfl | rfl | rfl | rfl | rfl | rfl<;>simp[ByteArray.toList,ByteArray.toList.loop,ByteArray.size,ByteArray.get!]
 rw[qea]
 intro h
 have:=beq_iff_eq.1 h
 rw[←this] at hl
 simp at hl
theorem qn7:∀a1 a2 k:Nat,a1≤1→a2≤1→1≤k→k≤3→newS [] (stN a1++plN a2++[]++(List.range k).map qiH)=true:=by
 intro a1 a2 k h1 h2 h3 h4
 have e1:a1=0∨a1=1:=by omega
 have e2:a2=0∨a2=1:=by omega
 have e3:k=1∨k=2∨k=3:=by omega
 rcases e1 with rfl | rfl<;>rcases e2 with rfl | rfl<;>rcases e3 with rfl | rfl | rfl<;>simp[stN,plN,qiH,List.range_succ,newS,qi5 97 rfl,qi5 98 rfl,qi5 120 rfl,qi5 121 rfl,qi5 114 rfl,qi5 115 rfl,qi5 116 rfl,kw1,inS]
theorem qlC {a1 a2:Nat}{l:List Cr}(h:qeS a1 a2 l):(l.map Cr.rl).map (·.name)=(List.range l.length).map qiH:=by
 apply List.ext_getElem (by simp)
 intro j h1 h2
 have hj:j<l.length:=by simpa using h1
 have:=(h j hj).name
 simp[List.getD_eq_getElem?_getD,hj] at this
 simp[Cr.rl,this]
theorem qiv {a1 a2:Nat}{l:List Cr}(h:qeS a1 a2 l){c:Cr}(hc:c∈l):∃j,CrOk a1 a2 j c:=by
 obtain⟨j,hj,rfl⟩:=List.getElem_of_mem hc
 have:=h j hj
 simp[List.getD_eq_getElem?_getD,hj] at this
 exact⟨j,this⟩
theorem qoo {a1 a2:Nat}(h1:a1≤1)(h2:a2≤1)(l:List Cr)(v:List Int){c:Cr}{j:Nat}(hc:CrOk a1 a2 j c):qds (ctMd a1 a2 l v) c.rl=true:=by
 have hs:=qg7 a1 h1
 have hp:=qgZ a2 h2
 have hn:c.need.all qd4=true:=List.all_eq_true.2 fun x hx=>by have:=hc.need x hx;simp[qd4,btw];omega
 have hg:c.give.all qd4=true:=List.all_eq_true.2 fun x hx=>by have:=hc.give x hx;simp[qd4,btw];omega
 have b1:=hc.from_
 have b2:=hc.to_
 have hb:qis (ctMd a1 a2 l v) c.rl=true:=by
  simp only[qis,ctMd,Cr.rl,hs,btw]
  simp;omega
 have hch:qcF (ctMd a1 a2 l v) c.rl=true:=by
  simp only[qcF,ctMd,Cr.rl,hp,hn,hg,hc.needL,hc.giveL];simp
 have hmv:qfy (ctMd a1 a2 l v) c.rl=true:=by simp[qfy,Cr.rl]
 have hon:qkC (ctMd a1 a2 l v).kind c.rl=c.rl:=rfl
 have hsm:qmM c.rl c.rl=true:=by simp[qmM,qkQ,qiY]
 rw[qds,hb,hon,hsm,qlP,if_pos (show (ctMd a1 a2 l v).kind=1 from rfl),hch,hmv];rfl
theorem qlh {a1 a2:Nat}(h1:a1≤1)(h2:a2≤1)(l:List Cr)(v:List Int)(hv:v.length=1+a2)(hr:∀x∈v,0≤x∧x≤3):qdt (ctMd a1 a2 l v)=true:=by
 have hs:=qg7 a1 h1
 have hp:=qgZ a2 h2
 have hk:(ctMd a1 a2 l v).kind=1:=rfl
 have hty:qcf (ctMd a1 a2 l v)=qaS (qd7 (qaI (1+a1:Nat)) (.mk 1 0 [] []) (1+a2)):=by
  simp only[qcf,qfD,hk]
  simp[ctMd,hs,hp]
 rw[qdt,hk,if_neg (by omega),hty]
 have e1:a1=0∨a1=1:=by omega
 have e2:a2=0∨a2=1:=by omega
 show qgn _ (cfV 0 v)=true
 rcases e2 with rfl | rfl
 ·obtain⟨x,rfl⟩:∃x,v=[x]:=by
   match v,hv with
   | [x],_=>exact⟨x,rfl⟩
  have:=hr x (by simp)
  rcases e1 with rfl | rfl<;>simp[qgn,qcX,qaJ,qa9,qaS,qd7,qaI,cfV,natV,qcU,qfM,ofV,qfR,V.n,V.kids]<;>exact⟨by omega,decide_eq_true (show x≤1048576 by omega)⟩
 ·obtain⟨x,y,rfl⟩:∃x y,v=[x,y]:=by
   match v,hv with
   | [x,y],_=>exact⟨x,y,rfl⟩
  have:=hr x (by simp)
  have:=hr y (by simp)
  rcases e1 with rfl | rfl<;>simp[qgn,qcX,qaJ,qa9,qaS,qd7,qaI,cfV,natV,qcU,qfM,ofV,qfR,V.n,V.kids]<;>exact⟨⟨by omega,decide_eq_true (show x≤1048576 by omega)⟩,by omega,decide_eq_true (show y≤1048576 by omega)⟩
theorem qjc {a1 a2:Nat}(h1:a1≤1)(h2:a2≤1)(l:List Cr)(v:List Int)(hl:l.length≤3)(hl0:l≠[])(hc:qeS a1 a2 l)(hv:v.length=1+a2)(hr:∀x∈v,0≤x∧x≤3):qcM (ctMd a1 a2 l v)=0:=by
 have hs:=qg7 a1 h1
 have hp:=qgZ a2 h2
 have hpos:1≤l.length:=by cases l with | nil=>exact absurd rfl hl0 | cons x l=>simp
 have c1:btw (ctMd a1 a2 l v).kind 1 6=true:=rfl
 have c2:qcP (ctMd a1 a2 l v)=true:=by
  simp[qcP,ctMd,limC,btw,hs,hp];omega
 have c3:qez (ctMd a1 a2 l v)=true:=rfl
 have c4:qhZ (ctMd a1 a2 l v)=true:=by
  rw[qhZ,qcu]
  show newS [] (stN a1++plN a2++[]++(l.map Cr.rl).map (·.name))=true
  rw[qlC hc];exact qn7 a1 a2 l.length h1 h2 hpos hl
 have c5:((ctMd a1 a2 l v).rules.any fun r=>!qds (ctMd a1 a2 l v) r)=false:=by
  rw[List.any_eq_false]
  intro r hr'
  obtain⟨c,hcm,rfl⟩:=List.mem_map.1 hr'
  obtain⟨j,hj⟩:=qiv hc hcm
  rw[qoo h1 h2 l v hj];simp
 have c6:=qlh h1 h2 l v hv hr
 rw[qcM,c1,c2,c3,c4,c5,c6];simp
theorem qjW (a1 a2:Nat)(l:List Cr)(v:List Int):qjV (ctMd a1 a2 l v)=true:=by
 have:((ctMd a1 a2 l v).rules.any fun r=>decide ((r.move.length:Int) > 0))=false:=by
  rw[List.any_eq_false]
  intro r hr
  obtain⟨c,_,rfl⟩:=List.mem_map.1 hr
  simp[Cr.rl]
 rw[qjV,this];rfl
theorem qjN (x:Int):(natV x).fit:=by simp[V.fit,fitL]
theorem qo2 {a1 a2:Nat}(h1:a1≤1)(h2:a2≤1)(l:List Cr)(v:List Int)(hl:l.length≤3)(hc:qeS a1 a2 l)(hv:v.length=1+a2):(ctMd a1 a2 l v).fit:=by
 have hs:=qg7 a1 h1
 have hp:=qgZ a2 h2
 refine⟨by simp[ctMd,hs];omega,by simp[ctMd,hp];omega,by simp[ctMd],by simp[ctMd],by simp[ctMd];omega,fun r hr=>?_,?_,fun s hs=>?_,rfl⟩
 ·obtain⟨c,hcm,rfl⟩:=List.mem_map.1 hr
  obtain⟨j,hj⟩:=qiv hc hcm
  have n1:=hj.needL
  have n2:=hj.giveL
  have n3:c.name.size≤1:=by
   rw[hj.name]
   match j with
   | 0=>exact Nat.le_refl 1
   | 1=>exact Nat.le_refl 1
   | _+2=>exact Nat.le_refl 1
  exact⟨by simp[Cr.rl];omega,by simp[Cr.rl];omega,by simp[Cr.rl],by simp[Cr.rl],by simp[Cr.rl],by simp[Cr.rl],by simp[Cr.rl],by simp only[Cr.rl];omega⟩
 ·show (cfV 0 v).fit
  refine⟨by simp;omega,qlO fun k hk=>?_⟩
  rcases List.mem_cons.1 hk with rfl | hk
  ·exact qjN 0
  ·obtain⟨x,_,rfl⟩:=List.mem_map.1 hk
   exact qjN x
 ·have hsz:∀x∈[(⟨#[97]⟩:ByteArray),⟨#[98]⟩,⟨#[120]⟩,⟨#[121]⟩],x.size≤1000000:=fun x hx=>by
   simp only[List.mem_cons,List.not_mem_nil,or_false] at hx
   rcases hx with rfl | rfl | rfl | rfl<;>simp[ByteArray.size]
  simp only[ctMd,List.append_nil,List.mem_append] at hs
  rcases hs with h | h
  ·have:=List.mem_of_mem_take h
   exact hsz s (by simp at this ⊢;rcases this with h | h<;>simp[h])
  ·have:=List.mem_of_mem_take h
   exact hsz s (by simp at this ⊢;rcases this with h | h<;>simp[h])
theorem qj3 {a1 a2:Nat}(l:List Cr)(v:List Int)(hc:qeS a1 a2 l):qbg (1+a2) (ctMd a1 a2 l v).rules:=by
 intro r hr
 obtain⟨c,hcm,rfl⟩:=List.mem_map.1 hr
 obtain⟨j,hj⟩:=qiv hc hcm
 have key:∀(w:List Int),(∀x∈w,0≤x∧x≤2)→∀k,0≤w.getD k 0∧w.getD k 0≤1048576:=fun w hw k=>by
  by_cases hk:k<w.length
  ·have:=hw w[k] (List.getElem_mem hk)
   simp[List.getD_eq_getElem?_getD,hk];omega
  ·rw[qcb (by omega)];omega
 exact⟨⟨hj.needL,hj.giveL⟩,fun k=>⟨key _ hj.need k,key _ hj.give k⟩⟩
theorem qj9 {w:List Int}(hw:∀x∈w,0≤x∧x≤3):VecOk w.length w:=by
 refine⟨rfl,fun k=>?_⟩
 by_cases hk:k<w.length
 ·have:=hw w[k] (List.getElem_mem hk)
  simp[List.getD_eq_getElem?_getD,hk];omega
 ·rw[qcb (by omega)];omega
structure CtOk (d:Dc):Prop where
 fit:(qho d).fit
 check:qcM (qho d)=0
 counts:qbs (qho d)=0
 rules:qbg (1+(ctD d).1.2.1) (qho d).rules
 start:(qho d).start=cfV 0 (ctD d).1.2.2.2
 vec:VecOk (1+(ctD d).1.2.1) (ctD d).1.2.2.2
 a2:(ctD d).1.2.1≤1
 dok:(ctD d).2.ok
theorem ct_ok {d:Dc}(h:d.ok):CtOk d:=by
 have r1:=qbi h (n:=2) (by omega)
 have h1:=qaQ h 2
 have r2:=qbi h1 (n:=2) (by omega)
 have h2:=qaQ h1 2
 have hsp:=qfJ (qaq d 2).1.toNat (qaq (qaq d 2).2 2).1.toNat 3 0 [] _ h2 rfl rfl (fun j hj=>by simp at hj)
 have hpos:=qgk (1+(qaq d 2).1.toNat) (1+(qaq (qaq d 2).2 2).1.toNat) h2
 have hrok:=qfI (1+(qaq d 2).1.toNat) (1+(qaq (qaq d 2).2 2).1.toNat) 3 0 [] _ h2
 have hv:=qcs (1+(qaq (qaq d 2).2 2).1.toNat) 3 (qbp (1+(qaq d 2).1.toNat) (1+(qaq (qaq d 2).2 2).1.toNat) 3 0 [] (qaq (qaq d 2).2 2).2).2
 have hvr:=qdV (1+(qaq (qaq d 2).2 2).1.toNat) 3 _ hrok (by omega)
 have b1:(qaq d 2).1.toNat≤1:=by omega
 have b2:(qaq (qaq d 2).2 2).1.toNat≤1:=by omega
 have hck:=qjc b1 b2 _ _ hsp.2 hpos hsp.1 hv hvr
 refine⟨qo2 b1 b2 _ _ hsp.2 hsp.1 hv,hck,?_,qj3 _ _ hsp.1,rfl,(by have:=qj9 hvr;rw[hv] at this;exact this),b2,qcd _ _ _ hrok⟩
 rw[qbs,if_neg (fun hn=>hn hck)]
 exact if_pos (qjW _ _ _ _)
end
section
open Go.RowKit
set_option maxHeartbeats 2000000
attribute [local simp] qae qbb qdO
def crS:Cr:=⟨⟨#[114]⟩,0,0,[0],[1]⟩
def mS:Md:=ctMd 0 0 [crS] [0]
def tS:List Nn:=[⟨0,[0],-1,-1⟩,⟨0,[1099511627776],0,0⟩,⟨0,[1099511627776],1,0⟩]
theorem qlB:qeS 0 0 [crS]:=fun j hj=>by
 have:j=0:=by simpa using hj
 subst this
 exact⟨rfl,by decide,by decide,rfl,rfl,by decide,by decide⟩
theorem qo6:mS.fit:=qo2 (by omega) (by omega) _ _ (by simp) qlB rfl
theorem qn2:qcM mS=0:=qjc (by omega) (by omega) _ _ (by simp) (by simp) qlB rfl (by decide)
theorem qhV:qbs mS=0:=by
 rw[qbs,if_neg (fun hn=>hn qn2)]
 exact if_pos (qjW _ _ _ _)
theorem qfH {N:Nat}{s:Int}{v:List Int}(h:VecOk N v):TreeG N [qd1 s v]:=by
 have one:∀j,j < [qd1 s v].length→[qd1 s v].getD j default=qd1 s v:=fun j hj=>by
  have:j=0:=by simpa using hj
  subst this;rfl
 exact⟨⟨fun j hj=>by rw[one j hj];simp[qd1];omega,by simp,fun j hj=>by rw[one j hj];exact h.len⟩,fun j hj=>by rw[one j hj];exact h⟩
theorem tS_run:runM mS 9 [qd1 0 [0]] 0 0=(tS,3,3,0):=by kernel_rfl
theorem tS_lim:limF tS=[⟨0,[1099511627776]⟩]:=by kernel_rfl
theorem qqH:qqi tS 2=[0,0]:=by kernel_rfl
theorem tS_par:Par tS:=by
 intro j hj
 have hj3:j<3:=hj
 match j,hj3 with
 | 0,_=>decide
 | 1,_=>decide
 | 2,_=>decide
theorem tS_vec:∀j,j<tS.length→(tS.getD j default).vec≠[]∧(tS.getD j default).vec.length≤1000000:=by
 intro j hj
 have hj3:j<3:=hj
 match j,hj3 with
 | 0,_=>decide
 | 1,_=>decide
 | 2,_=>decide
abbrev mSr:List T:=[.int .i64 1,.sl 100 1 0 0 1,.sl 101 1 0 0 1,.nil,.nil,.int .i64 0,.int .i64 0,.sl 105 14 14 0 1,.int .i64 0,.sl 108 4 2 0 2]
theorem mS_fz {H:Heap}(h0:H 100=.live ⟨9,[.str ⟨#[97]⟩]⟩)(h1:H 101=.live ⟨9,[.str ⟨#[120]⟩]⟩)(h2:H 102=.live ⟨3,[.int .i64 0]⟩)(h3:H 103=.live ⟨3,[.int .i64 1]⟩)
 (h5:H 105=.live ⟨66,[.str ⟨#[114]⟩,.int .i64 0,.int .i64 0,.sl 102 1 0 0 1,.sl 103 1 0 0 1,.nil,.int .i64 0,.int .i64 0,.int .i64 0,.nil,.nil,.nil,.nil,.int .i64 0]⟩) (h8:H 108=.live ⟨31,[.int .i64 0,.nil,.int .i64 0,.nil]⟩) :
 SlotFz H (inL [111]) (.live ⟨33,mSr⟩) (sMg mS):=by
 have f0:Fz H (inL [111]) (.sl 100 1 0 0 1) (.list [.str ⟨#[97]⟩]):=.slL h0 rfl rfl rfl rfl rfl rfl (.cons (.same rfl) .nil)
 have f1:Fz H (inL [111]) (.sl 101 1 0 0 1) (.list [.str ⟨#[120]⟩]):=.slL h1 rfl rfl rfl rfl rfl rfl (.cons (.same rfl) .nil)
 have f2:Fz H (inL [111]) (.sl 102 1 0 0 1) (.list [.int .i64 0]):=.slL h2 rfl rfl rfl rfl rfl rfl (.cons (.same rfl) .nil)
 have f3:Fz H (inL [111]) (.sl 103 1 0 0 1) (.list [.int .i64 1]):=.slL h3 rfl rfl rfl rfl rfl rfl (.cons (.same rfl) .nil)
 have f5:Fz H (inL [111]) (.sl 105 14 14 0 1) (.list [.agg [.str ⟨#[114]⟩,.int .i64 0,.int .i64 0,.list [.int .i64 0],.list [.int .i64 1],.list [],.int .i64 0,.int .i64 0,.int .i64 0,.list [],.list [],.list [],.list [],.int .i64 0]]):=
  .slL h5 rfl rfl rfl rfl rfl rfl (.cons (.same rfl) (.cons (.same rfl) (.cons (.same rfl) (.cons f2 (.cons f3 (.cons .nil (.cons (.same rfl) (.cons (.same rfl) (.cons (.same rfl) (.cons .nil (.cons .nil (.cons .nil (.cons .nil (.cons (.same rfl) .nil))))))))))))))
 have f8:Fz H (inL [111]) (.sl 108 4 2 0 2) (.list [.agg [.int .i64 0,.list []],.agg [.int .i64 0,.list []]]):=.slL h8 rfl rfl rfl rfl rfl rfl (.cons (.same rfl) (.cons .nil (.cons (.same rfl) (.cons .nil .nil))))
 have e:mdC mS=[.int .i64 1,.list [.str ⟨#[97]⟩],.list [.str ⟨#[120]⟩],.list [],.list [],.int .i64 0,.int .i64 0,.list [.agg [.str ⟨#[114]⟩,.int .i64 0,.int .i64 0,.list [.int .i64 0],.list [.int .i64 1],.list [],.int .i64 0,.int .i64 0,.int .i64 0,.list [],.list [],.list [],.list [],.int .i64 0]],.int .i64 0,.list [.agg [.int .i64 0,.list []],.agg [.int .i64 0,.list []]]]:=rfl
 show SlotFz H (inL [111]) (.live ⟨33,mSr⟩) (.live ⟨33,mdC mS⟩)
 rw[e]
 exact .liveL (.cons (.same rfl) (.cons f0 (.cons f1 (.cons .nil (.cons .nil (.cons (.same rfl) (.cons (.same rfl) (.cons f5 (.cons (.same rfl) (.cons f8 .nil)))))))))) rfl
set_option maxHeartbeats 4000000 in
theorem qqq:TP Tryz.prog 7 [] (.bool true):=by
 have hv:VecOk 1 [0]:=qj9 (w:=[0]) (by decide)
 have hst:=qkc mS qo6 qhV 0 [0] rfl (by simp)
 have hrn:=qlT mS qo6 qhV 1 (by omega) (by omega) (qj3 _ _ qlB) 9 (by omega) [qd1 0 [0]] 0 (qfH hv)
 rw[tS_run] at hrn
 have hli:=qma tS 3 (by simp[tS]) (by simp[tS]) tS_vec
 rw[tS_lim] at hli
 have hdn:=qlG tS 3
 have hdb:decide ((3:Int)≥(tS.length:Int))=true:=rfl
 rw[hdb] at hdn
 have hcv:=qlz [⟨0,[1099511627776]⟩] (by simp) (by simp) 0 [7] (by simp)
 have hcb:covL [⟨0,[1099511627776]⟩] 0 [7]=true:=rfl
 rw[hcb] at hcv
 have hpt:=qqj tS 3 tS_par (by simp[tS]) 2 (by simp[tS])
 rw[qqH] at hpt
 have hr1:List.drop 1 (repl 1 [T.str ⟨#[]⟩])=[]:=rfl
 have hr2:List.drop 1 (repl 1 [T.int .i64 0])=[]:=rfl
 have hr3:∀x:List T,x.length=14→List.drop 14 (repl 1 x)=[]:=fun x hx=>by simp[repl,hx]
 have htl:(qa0 tS).length=3:=rfl
 generalize tS=t at*
 simp only[qbm,grC,qaA,runT] at hst hrn hli hdn hpt ⊢
 have fX:=(cJ3 @qaK @qiV @htl)
 refine qai fn7 (by simp) ?_
 unfold i7
 simp only[argL]
 refine wR0 0 [] fX ?_
 refine wR0 100 [1] fX ?_
 simp only[thn]
 refine qkg (l':=[(1,.ref 111 10 0)]) (hl':=[(100,.dead),(101,.dead),(102,.dead),(103,.dead),(105,.dead),(108,.dead),(111,sMg mS)]) [111] (.cons (.same rfl) .nil) (.dead rfl (fun h=>by cases h) (.dead rfl (fun h=>by cases h) (.dead rfl (fun h=>by cases h) (.dead rfl (fun h=>by cases h) (.dead rfl (fun h=>by cases h) (.dead rfl (fun h=>by cases h) (.keep rfl (mS_fz rfl rfl rfl rfl rfl rfl) .nil))))))) ?_
 refine wRn 200 [1,2,3] fX ?_
 refine rC fX ?_
 refine⟨_,hst,rE fX ?_⟩
 refine wRn 300 [2,3,4,5] fX ?_
 refine rC fX ?_
 refine⟨_,hrn,rE fX ?_⟩
 refine wRn 400 [2,3,4,5,6] fX ?_
 refine rC fX ?_
 refine⟨_,hli,rE fX ?_⟩
 refine wRn 500 [0] fX ?_
 refine rC fX ?_
 refine⟨_,hdn,rN fX ?_⟩
 refine rL [(536,.live ⟨3,qab [7]⟩)] fX ?_
 refine⟨_,_,hcv,(by exact FrzL.cons (.same (by simp[T.fro,T.cl])) (FrzL.cons (.same rfl) (FrzL.cons (qbt [7] rfl rfl rfl) FrzL.nil))),rfl,rN fX ?_⟩
 refine rC fX ?_
 refine⟨_,hpt,rE fX ?_⟩
 refine wP ?_
 exact .same rfl
end
end Go.Proofs.YtncpdpbpcnoeeaaGreat
