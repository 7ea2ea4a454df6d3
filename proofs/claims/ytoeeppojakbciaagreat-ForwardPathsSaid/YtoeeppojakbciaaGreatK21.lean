/- Contracts of functions of the program, for all arguments that they name. -/
import Derived.Deep.QuietTactic
import Derived.Lib.Hide
import Derived.LoopIn
import Derived.LoopNIn
import Derived.OwnWalkIn
import Derived.Shelf.Abstract
import Derived.Shelf.AbstractIn
import Derived.Shelf.RegionOpen
import Derived.Sort.LoopGhostIn
import Derived.Stop.RegionWithIn
import Derived.TacticsInMore
import Derived.WalkKit
import Derived.Test.YtoeeppojakbciaaGreatK03
import Derived.Test.YtoeeppojakbciaaGreatK20
namespace Go.Proofs.YtoeeppojakbciaaGreat
set_option linter.unusedVariables false
section
open Go.RowKit
set_option maxHeartbeats 2000000
attribute [local go_sem] Oper.semAt_some
structure Nn where
 st:Int
 vec:List Int
 par:Int
 rule:Int
instance:Inhabited Nn:=⟨⟨0,[],0,0⟩⟩
def nnC (n:Nn):List T:=[.int .i64 n.st,.list (qac n.vec),.int .i64 n.par,.int .i64 n.rule]
def encN (n:Nn):T:=.agg (nnC n)
def qcK (l:List Nn):List T:=l.flatMap nnC
theorem qcz:∀l:List Nn,(qcK l).length=l.length*4
 | []=>rfl
 | x::l=>by have:=qcz l;simp only[qcK] at this;simp[qcK,this,nnC];omega
theorem qgC:∀(l:List Nn) (j k:Nat),j<l.length→k<4→(qcK l).getD (j*4+k) .undef=(nnC (l.getD j default)).getD k .undef
 | [],j,k,h,_=>by simp at h
 | x::l,0,k,_,hk=>by
  have:(nnC x).length=4:=rfl
  simp only[qcK,List.flatMap_cons,Nat.zero_mul,Nat.zero_add,List.getD_eq_getElem?_getD]
  rw[List.getElem?_append_left (by omega)]
  rfl
 | x::l,j+1,k,h,hk=>by
  have ih:=qgC l j k (by simpa using h) hk
  have:(nnC x).length=4:=rfl
  have e:(x::l).getD (j+1) default=l.getD j default:=rfl
  rw[e,←ih]
  simp only[qcK,List.flatMap_cons,List.getD_eq_getElem?_getD]
  rw[List.getElem?_append_right (by rw[this,Nat.add_mul];omega),this]
  congr 2
  rw[Nat.add_mul];omega
theorem qfm:∀l:List Nn,Ones (qcK l)
 | []=>fun c hc=>by cases hc
 | x::l=>fun c hc=>by
  simp only[qcK,List.flatMap_cons,List.mem_append] at hc
  rcases hc with hc | hc
  ·simp only[nnC,List.mem_cons,List.not_mem_nil,or_false] at hc
   rcases hc with rfl | rfl | rfl | rfl<;>rfl
  ·exact qfm l c hc
theorem qbd (D:Nat→Bool):∀l:List Nn,clL D (qcK l)=true
 | []=>rfl
 | x::l=>by
  have:=qbd D l
  simp only[qcK] at this
  simp[qcK,this,nnC,clL,T.cl,qae]
def Par (l:List Nn):Prop:=∀j,j<l.length → -1≤(l.getD j default).par∧(l.getD j default).par<j
def upF (l:List Nn)(s:Int):Nat→Int→List Nat
 | 0,_=>[]
 | f+1,i=>if i<0 then [] else (if (l.getD i.toNat default).st=s then [i.toNat] else [])++upF l s f (l.getD i.toNat default).par
theorem qeC (l:List Nn)(s:Int)(f:Nat)(i:Int)(h:i<0):upF l s f i=[]:=by
 cases f with
 | zero=>rfl
 | succ f=>simp[upF,h]
theorem qi4 {l:List Nn}(hp:Par l)(s:Int):∀(f:Nat) (i:Int) (g:Nat),i<l.length→i<f→i<g→upF l s f i=upF l s g i
 | 0,i,g,_,h,_=>by rw[qeC _ _ _ _ (by omega),qeC _ _ _ _ (by omega)]
 | f+1,i,g,hl,h,hg=>by
  by_cases hi:i<0
  ·rw[qeC _ _ _ _ hi,qeC _ _ _ _ hi]
  ·cases g with
   | zero=>omega
   | succ g=>
    have hb:=hp i.toNat (by omega)
    rw[upF,upF,if_neg hi,if_neg hi,qi4 hp s f _ g (by omega) (by omega) (by omega)]
def upL (l:List Nn)(s i:Int):List Nat:=upF l s l.length i
theorem qt4 (l:List Nn)(s i:Int)(h:i<0):upL l s i=[]:=qeC _ _ _ _ h
theorem qt3 {l:List Nn}(hp:Par l)(s:Int)(j:Nat)(hj:j<l.length):upL l s j=(if (l.getD j default).st=s then [j] else [])++upL l s (l.getD j default).par:=by
 have hb:=hp j hj
 unfold upL
 obtain⟨n,hn⟩:∃n,l.length=n+1:=⟨l.length - 1,by omega⟩
 rw[hn,upF,if_neg (by omega),Int.toNat_natCast]
 congr 1
 exact qi4 hp s n _ (n+1) (by omega) (by omega) (by omega)
abbrev sG (l:List Nn):Slot:=.live ⟨55,qcK l⟩
abbrev grT (id:Nat)(l:List Nn)(next:Int):List T:=[.sl id (l.length*4) 4 0 l.length,.int .i64 next]
abbrev qfM (id:Nat)(l:List Nn)(next i s:Int):List T:=[.ptr [.int .i64 i],.ptr (grT id l next),.ptr [.int .i64 s]]
structure UpV (W:World) (A:Sta) (μ:Nat→Nat) (H:Heap) (id:Nat) (l:List Nn) (i s:Int) (p0 p1 p2:Addr):Prop where
 c0:W.cell? p0=some (.int .i64 i)
 c1:∃c,W.cell? p1=some (.slice (some ⟨μ id,0,none⟩) l.length c)
 c2:W.cell? p2=some (.int .i64 s)
 nd:∀j,j<l.length→W.cell? ⟨μ id,j*4,none⟩=some (.int .i64 (l.getD j default).st)∧(∃v,W.cell? ⟨μ id,j*4+1,none⟩=some v∧Rep W A μ H v (.list (qac (l.getD j default).vec)))∧W.cell? ⟨μ id,j*4+2,none⟩=some (.int .i64 (l.getD j default).par)
theorem qk2 {W:World}{A:Sta}{μ:Nat→Nat}{H:Heap}{v:Value}{cs:List T}(h:Rep W A μ H v (.ptr cs)):∃(a:Addr) (U:Nat→Value),v=.pointer (some a)∧(∀p,p<cs.length→W.cell? (a.add p)=some (U p))∧∀p,p<cs.length→Rep W A μ H (U p) (cs.getD p .undef):=by
 cases h with
 | ptr a _ U h1 hA hU hR=>exact⟨a,U,rfl,hU,hR⟩
theorem qaH {W:World}{A:Sta}{μ:Nat→Nat}{H:Heap}{v:Value}{k:IntKind}{n:Int}(h:Rep W A μ H v (.int k n)):v=.int k n:=by
 cases h with
 | int=>rfl
theorem add_zero' (a:Addr):a.add 0=a:=by simp[Addr.add]
theorem qqd {W:World}{A:Sta}{μ:Nat→Nat}{H:Heap}{id:Nat}{l:List Nn}{next i s:Int}{us:Array Value}(hl:l≠[])(hS:Sim W A μ H)(hH:H id=sG l)(h:Reps W A μ H us (qfM id l next i s)) :
 ∃p0 p1 p2,us=#[.pointer (some p0),.pointer (some p1),.pointer (some p2)]∧UpV W A μ H id l i s p0 p1 p2:=by
 obtain⟨hz,hR⟩:=h
 obtain⟨p0,U0,e0,c0,r0⟩:=qk2 (hR 0 (by simp))
 obtain⟨p1,U1,e1,c1,r1⟩:=qk2 (hR 1 (by simp))
 obtain⟨p2,U2,e2,c2,r2⟩:=qk2 (hR 2 (by simp))
 have hz3:us.size=3:=hz
 refine⟨p0,p1,p2,?_,?_⟩
 ·apply Array.ext
  ·simp[hz3]
  ·intro k h1 h2
   have hk:k<3:=by omega
   have g:us.getD k Go.undef=us[k]:=by simp[h1]
   rcases k with _ | _ | _ | k
   ·rw[←g,e0];rfl
   ·rw[←g,e1];rfl
   ·rw[←g,e2];rfl
   ·omega
 ·have f0:=c0 0 (by simp)
  have f1:=c1 0 (by simp)
  have f2:=c2 0 (by simp)
  rw[add_zero'] at f0 f1 f2
  have g0:=qaH (r0 0 (by simp))
  have g2:=qaH (r2 0 (by simp))
  have g1:=r1 0 (by simp)
  rw[g0] at f0
  rw[g2] at f2
  obtain⟨cur,k1,k2,k3,k4⟩:=hS.blk id _ hH
  have hlen:=qcz l
  generalize hu:U1 0=u at f1 g1
  have e3:(grT id l next).getD 0 .undef=.sl id (l.length*4) 4 0 l.length:=rfl
  rw[e3] at g1
  have hcell:∀k,k<l.length*4→W.cell? ⟨μ id,k,none⟩=some (cur.getD k Go.undef):=fun k hk=>by
   have:k<cur.size:=by simp only at k2;omega
   simp[World.cell?,k1,this]
  have hrd:∀j k,j<l.length→k<4→Rep W A μ H (cur.getD (j*4+k) Go.undef) ((nnC (l.getD j default)).getD k .undef):=fun j k hj hk=>by
   rw[←qgC l j k hj hk]
   exact k4 _ (by simp only;omega)
  refine⟨f0,?_,f2,fun j hj=>⟨?_,?_,?_⟩⟩
  ·cases g1 with
   | sl _ _ _ _ _ c b cur' hb ht hcur hn hm hc hf=>exact⟨c,f1⟩
   | slS p c _ _ _ _ _ hn hs=>
    rcases hs with hd | ⟨b,hb,ht⟩
    ·rw[hH] at hd;cases hd
    ·rw[hH] at hb;injection hb with hb;subst hb;simp only at ht;omega
  ·have:=hcell (j*4) (by omega)
   have h0:Rep W A μ H (cur.getD (j*4) Go.undef) (.int .i64 (l.getD j default).st):=hrd j 0 hj (by omega)
   rw[this,qaH h0]
  ·exact⟨_,hcell (j*4+1) (by omega),hrd j 1 hj (by omega)⟩
  ·have:=hcell (j*4+2) (by omega)
   have h0:Rep W A μ H (cur.getD (j*4+2) Go.undef) (.int .i64 (l.getD j default).par):=hrd j 2 hj (by omega)
   rw[this,qaH h0]
theorem UpV.drew {W:World}{A:Sta}{μ:Nat→Nat}{H:Heap}{id:Nat}{l:List Nn}{i s:Int}{p0 p1 p2:Addr}(h:UpV W A μ H id l i s p0 p1 p2):UpV W.drew A μ H id l i s p0 p1 p2:=
 ⟨h.c0,h.c1,h.c2,fun j hj=>by
  obtain⟨a,⟨v,b,c⟩,d⟩:=h.nd j hj
  exact⟨a,⟨v,b,c.trans (qdY W A μ H)⟩,d⟩⟩
theorem qlL (ro:Option Nat)(k:Nat):(Fo ro).depth.isSome=true→1≤k:=fun h=>by simp at h
abbrev upX (l:List Nn)(js:List Nat):List (List T):=js.map fun (j:Nat)=>[.int .i64 (j:Int),.list (qac (l.getD j default).vec)]
theorem qlp {P:Program}{id:Nat}{Q:Exit→Act→World→Prop}{a:Act}{w:World}{l:List Oper}(hm:P.follows .mixedOrders=true)(hB:Region.lexB .any l.toArray=true)
 (h:wpQuiet P l.toArray (fun w'=>w'=w.drew) (fun a'=>Q .normal a' w.drew) l a):(Code.region id l.toArray true).wpIn (Fo none) 0 P Q a w:=by
 refine (wpIn_wide (n:=0)).2 (wp_region_quiet (C:=fun w'=>w'=w.drew) hm hB rfl ?_)
 simpa using h
set_option maxRecDepth 100000 in
set_option maxHeartbeats 4000000 in
theorem qqc {id:Nat}{l:List Nn}{next i s:Int}{H:Heap}(hp:Par l)(hl:l≠[])(hll:l.length≤100000)(hi:-1≤i∧i<l.length)(hH:H id=sG l):Iter Tryz.prog 150 (qfM id l next i s) H (upX l (upL l s i)):=by
 refine⟨Tryz.call150,fun lp J Jx W A μ us hJ hJd hY h0=>?_⟩
 obtain⟨hS0,hR0⟩:=hJ 0 W A μ h0
 obtain⟨p0,p1,p2,hus,hV0⟩:=qqd hl hS0 hH hR0
 have hview:∀n W A μ,J n W A μ→UpV W A μ H id l i s p0 p1 p2:=fun n W A μ hj=>by
  obtain⟨hS,hR⟩:=hJ n W A μ hj
  obtain⟨q0,q1,q2,hus',hV⟩:=qqd hl hS hH hR
  rw[hus] at hus'
  simp only[Array.mk.injEq,List.cons.injEq,Value.pointer.injEq,Option.some.injEq,and_true] at hus'
  obtain⟨rfl,rfl,rfl⟩:=hus'
  exact hV
 subst hus
 have hc0:=hV0.c0
 have HVIEW:=Lib.hid hview
 have HV0:=Lib.hid hV0
 have HR0:=Lib.hid hR0
 have HS0:=Lib.hid hS0
 have HJ:=Lib.hid hJ
 have HJD:=Lib.hid hJd
 have HY:=Lib.hid hY
 have HP:=Lib.hid hp
 have HL:=Lib.hid hl
 have HH:=Lib.hid hH
 clear hview hV0 hR0 hS0 hJ hJd hY hp hl hH
 show CallsIn (Fo none) 0 Tryz.prog 150 #[.func (.yield lp) #[] #[],.pointer (some p0),.pointer (some p1),.pointer (some p2)] W _
 refine callsIn_of_wp Tryz.func150 rfl trivial ?_ rfl
 simp only[Tryz.ntmps150,List.size_toArray,List.length_cons,List.length_nil,Nat.reduceAdd,Nat.reduceSub,Array.replicate_succ,Array.replicate_zero,List.push_toArray,List.append_toArray,List.nil_append,List.cons_append]
 gi_wp2
 gi_loopg [5] (l.length+1) (fun gh xv wr=>∃(i':Int) (n:Nat) (A':Sta) (μ':Nat→Nat),xv=.int .i64 i' ∧ -1≤i'∧i'<l.length∧i'+2≤(gh:Int)∧J n wr A' μ'∧upL l s i'=(upL l s i).drop n∧n≤(upL l s i).length)
 case atStart=>exact⟨i,0,A,μ,rfl,hi.1,hi.2,by omega,h0,rfl,Nat.zero_le _⟩
 case round=>
  obtain⟨i',n,A',μ',rfl,hi1,hi2,hgh,hj,hup,hn⟩:=hrel
  by_cases hneg:i'<0
  ·have hd:decide (i'≥0)=false:=decide_eq_false (by omega)
   rw[qt4 _ _ _ hneg] at hup
   have hnl:n=(upX l (upL l s i)).length:=by
    have:=congrArg List.length hup
    simp at this ⊢
    omega
   rw[hnl] at hj
   have HJ:=Lib.hid hj
   have HUP:=Lib.hid hup
   have HN:=Lib.hid hn
   have HNL:=Lib.hid hnl
   clear hj hup hn hnl
   gi_wp2
   go_end0
   exact⟨⟨_,rfl⟩,.inl ⟨A',μ',HJ.out⟩⟩
  ·obtain⟨j,rfl⟩:=Int.eq_ofNat_of_zero_le (Int.not_lt.1 hneg)
   have hjl:j<l.length:=by omega
   have hd:decide ((j:Int)≥0)=true:=decide_eq_true (by omega)
   have hV:=HVIEW.out n wr A' μ' hj
   obtain⟨c,hc1⟩:=hV.c1
   have hc2:=hV.c2
   obtain⟨n0,⟨vv,n1,hvv⟩,n2⟩:=hV.nd j hjl
   have hlt:(j:Int)<(l.length:Int):=by omega
   have hpar:=HP.out j hjl
   rw[qt3 HP.out s j hjl] at hup
   generalize hst:(l.getD j default).st=st at*
   generalize hpr:(l.getD j default).par=pr at*
   by_cases hs:st=s
   ·subst hs
    rw[if_pos rfl] at hup
    have hnl:n<(upL l st i).length:=by
     have:=congrArg List.length hup
     simp at this;omega
    rw[List.drop_eq_getElem_cons hnl] at hup
    simp only[List.singleton_append,List.cons.injEq] at hup
    obtain⟨hgj,hup⟩:=hup
    have hjd:=HJD.out _ _ _ _ hj
    have hxs:(upX l (upL l st i)).getD n []=[.int .i64 (j:Int),.list (qac (l.getD j default).vec)]:=by
     simp[upX,List.getD_eq_getElem?_getD,hnl,←hgj]
    obtain⟨fn,tmps,assign,body,hy,hR⟩:=HY.out n wr.drew A' μ' #[.int .i64 (j:Int),vv] (by simpa [upX] using hnl) hjd (by
     rw[hxs]
     refine⟨rfl,fun k hk=>?_⟩
     match k,hk with
     | 0,_=>exact .int _ _
     | 1,_=>exact hvv.trans (qdY wr A' μ' H))
    have hR:=hR.mono (R':=fun e W'=>∃b,e=.returned (.bool b)∧(b=true→∃A' μ',J (n+1) W' A' μ')∧(b=false→Jx W')) (by
     rintro e W' (⟨rfl,h⟩ | ⟨rfl,h⟩)
     ·exact⟨true,rfl,fun _=>h,(fun h=>by cases h)⟩
     ·exact⟨false,rfl,(fun h=>by cases h),fun _=>h⟩)
    clear hgj hxs
    have HJ:=Lib.hid hj
    have HUP:=Lib.hid hup
    have HN:=Lib.hid hn
    have HV:=Lib.hid hV
    have HVV:=Lib.hid hvv
    have HST:=Lib.hid hst
    have HPR:=Lib.hid hpr
    have HPAR:=Lib.hid hpar
    have HNL:=Lib.hid hnl
    have HJD:=Lib.hid hjd
    clear hj hup hn hV hvv hst hpr hpar hnl hjd
    gi_wp2
    gi_region_with ((first | refine hR.mono ?_ | (refine⟨qlL _ _,?_⟩;refine hR.mono ?_) | (refine⟨trivial,?_⟩;refine⟨qlL _ _,?_⟩;refine hR.mono ?_));rintro e W3 ⟨b,rfl,hb1,hb2⟩)
    all_goals
     cases b with
     | false=>
      have hx:=hb2 rfl
      have HX:=Lib.hid hx
      have HB1:=Lib.hid hb1
      have HB2:=Lib.hid hb2
      clear hx hb1 hb2
      gi_wp2
      ((try simp only[Exit.inBlock,Exit.then]);refine bodyPost_ret (results_none rfl _ _ _) rfl ?_)
      exact⟨⟨_,rfl⟩,.inr HX.out⟩
     | true=>
      obtain⟨A2,μ2,hj2⟩:=hb1 rfl
      have hV2:=HVIEW.out _ W3 A2 μ2 hj2
      obtain⟨c2,hc3⟩:=hV2.c1
      obtain⟨m0,⟨vv2,m1,m2⟩,m3⟩:=hV2.nd j hjl
      rw[HPR.out] at m3
      have HJ2:=Lib.hid hj2
      have HV2:=Lib.hid hV2
      have HB1:=Lib.hid hb1
      have HB2:=Lib.hid hb2
      have M0:=Lib.hid m0
      have M1:=Lib.hid m1
      have M2:=Lib.hid m2
      clear hj2 hV2 hb1 hb2 m0 m1 m2
      gi_wp2
      gi_roundg (j+1)
      case measure=>omega
      case rel=>exact⟨pr,n+1,A2,μ2,rfl,HPAR.out.1,by have:=HPAR.out.2;omega,by have:=HPAR.out.2;omega,HJ2.out,HUP.out,by have:=HNL.out;omega⟩
   ·have hse:(st==s)=false:=beq_eq_false_iff_ne.2 hs
    rw[if_neg hs,List.nil_append] at hup
    have hjd:=HJD.out _ _ _ _ hj
    have HJ:=Lib.hid hj
    have HUP:=Lib.hid hup
    have HN:=Lib.hid hn
    have HV:=Lib.hid hV
    have HVV:=Lib.hid hvv
    have N1:=Lib.hid n1
    have HST:=Lib.hid hst
    have HPR:=Lib.hid hpr
    have HPAR:=Lib.hid hpar
    clear hj hup hn hV hvv n1 hst hpr hpar
    gi_wp2
    refine qlp (by kernel_rfl) (by kernel_rfl) ?_
    repeat ((with_reducible refine wpQuiet_step (fun K hK=>?_));go_simp;first
     | ((with_reducible refine hK _ ?_);clear hK K)
     | (rw[if_neg (by intro h;cases h)];(with_reducible refine hK _ ?_);clear hK K)
     | (
      apply Exists.intro;refine⟨fun W hW=>?_,hK _ ?_⟩
      ·first
        | with_reducible exact Eq.refl _
        | (rw[hW];(try go_simp);with_reducible first | done | exact Eq.refl _ | exact⟨Eq.refl _,Eq.refl _⟩)
      clear hK K))
    with_reducible refine wpQuiet_nil ?_
    gi_wp2
    gi_roundg (j+1)
    case measure=>omega
    case rel=>exact⟨pr,n,A',μ',rfl,HPAR.out.1,by have:=HPAR.out.2;omega,by have:=HPAR.out.2;omega,hjd,HUP.out,HN.out⟩
end
end Go.Proofs.YtoeeppojakbciaaGreat
