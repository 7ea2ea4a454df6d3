/- Contracts of functions of the program, for all arguments that they name. -/
import Derived.Test.YtpplncjaihgimaaGreatK23
import Derived.Test.YtpplncjaihgimaaGreatK24
import Derived.Test.YtpplncjaihgimaaGreatK27
import Derived.Test.YtpplncjaihgimaaGreatK28
namespace Go.Proofs.YtpplncjaihgimaaGreat
set_option linter.unusedVariables false
section
open Go.RowKit
set_option maxHeartbeats 2000000
attribute [local simp] qai
def kidT (ks:List Int):T:=match ks with
 | []=>.nil
 | k::ks=>.list (qab (k::ks))
def nN (x:Nd):Int×T:=(x.lab,kidT x.kids)
def nL (x:Nd):Int×T:=(x.lab,.list (qab x.kids))
abbrev sN (cs:List T):Slot:=.live ⟨100,cs⟩
def qf0 (id:Nat)(done:List (Int×T)):T:=match done with
 | []=>.nil
 | _::ds=>.sl id ((ds.length+1)*2) 2 0 (ds.length+1)
def qfZ (id:Nat)(done:List (Int×T)):List (Nat×Slot):=match done with
 | []=>[]
 | d::ds=>[(id,sN (qaF (d::ds)))]
def ndsT (l:List Nd):T:=match l with
 | []=>.nil
 | x::l=>.list (qaY ((x::l).map nN))
theorem qhH (D:Nat→Bool)(ks:List Int):(kidT ks).cl D=true:=by cases ks<;>simp[kidT,T.cl,qae]
theorem qnq (ks:List Int):(kidT ks).one=true:=by cases ks<;>rfl
theorem qbR (D:Nat→Bool):∀l:List Nd,clL D (qaF (l.map nN))=true
 | []=>rfl
 | x::l=>by have:=qbR D l;simp only[qaF] at this;simp[qaF,nN,clL,T.cl,qhH,this]
theorem qho:∀l:List Nd,Ones (qaF (l.map nN))
 | []=>fun c hc=>by cases hc
 | x::l=>fun c hc=>by
  have:=qho l
  simp only[qaF,List.map_cons,List.flatMap_cons,List.cons_append,List.nil_append,List.mem_cons,nN] at hc this
  rcases hc with rfl | rfl | hc
  ·rfl
  ·exact qnq _
  ·exact this c hc
theorem FzL.append {H:Heap}{D:Nat→Bool}:∀ {xs ys xs' ys':List T},FzL H D xs ys→FzL H D xs' ys'→FzL H D (xs++xs') (ys++ys')
 | [],[],_,_,_,h'=>h'
 | [],_::_,_,_,h,_=>by simp[FzL] at h
 | _::_,[],_,_,h,_=>by simp[FzL] at h
 | x::xs,y::ys,xs',ys',h,h'=>by
  refine FzL.cons (h.2 0 (by simp)) (FzL.append ⟨by simpa using h.1,fun i hi=>?_⟩ h')
  simpa using h.2 (i+1) (by simpa using hi)
theorem SlotFz.liveApp {H:Heap}{D:Nat→Bool}{ty:TypeId}{cs0 cs cs':List T}(h0:clL D cs0=true)(o0:Ones cs0)(h:FzL H D cs cs')(h1:(cs'.all T.one)=true):SlotFz H D (.live ⟨ty,cs0++cs⟩) (.live ⟨ty,cs0++cs'⟩):=by
 refine SlotFz.liveL (FzL.append ⟨rfl,fun i hi=>.same (qbb h0 i)⟩ h) ?_
 rw[List.all_append,h1,Bool.and_true,List.all_eq_true]
 exact o0
theorem qtW {H:Heap}:∀ {l l':List (Int×T)},All2 (fun a b=>a.1=b.1∧Frz H a.2 b.2) l l'→FrzL H (qaF l) (qaF l')
 | [],[],.nil=>.nil
 | a::l,b::l',.cons h0 h1=>by
  have:=qtW h1
  simp only[qaF,List.flatMap_cons] at this ⊢
  rw[←h0.1]
  exact FrzL.append (.cons (.same rfl) (.cons h0.2 .nil)) this
theorem frzC {H:Heap}{id ty n tot:Nat}(l l':List (Int×T))(z:List T)(hb:H id=.live ⟨ty,qaF l++z⟩)(hn:n=l.length)(ht:tot=(qaF l++z).length)(h:All2 (fun a b=>a.1=b.1∧Frz H a.2 b.2) l l')(h1:∀b∈l',b.2.one=true):Frz H (.sl id tot 2 0 n) (.list (qaY l')):=by
 subst hn ht
 have hl:=qbd l
 have ho:Ones (qaF l'):=fun c hc=>by
  simp only[qaF,List.mem_flatMap] at hc
  obtain⟨x,hx,hc⟩:=hc
  simp only[List.mem_cons,List.not_mem_nil,or_false] at hc
  rcases hc with rfl | rfl
  ·rfl
  ·exact h1 x hx
 refine Frz.sl hb rfl (by rw[List.length_append,hl];simp[esz]) (by rw[qc3,h.length]) (qkn l') (by rw[qeQ];exact ho) fun k hk=>?_
 have hk':k<(qaF l).length:=by rw[hl];simpa [esz] using hk
 simp only[Nat.zero_add]
 rw[qeQ,List.getD_eq_getElem?_getD,List.getElem?_append_left hk',←List.getD_eq_getElem?_getD]
 exact (qtW h).2 k hk'
theorem qps {H:Heap}:∀l:List Nd,All2 (fun a b=>a.1=b.1∧Frz H a.2 b.2) (l.map nN) (l.map nN)
 | []=>.nil
 | x::l=>.cons ⟨rfl,.same (qhH _ _)⟩ (qps l)
theorem qns (pre:List Int)(k:Int)(rest:List Int):(qac (qaP (pre++k::rest))).getD pre.length .undef=.agg [.int .i64 k,.list []]:=by
 have:=qaU (qaP pre) (.mk k []) (qaP rest)
 simp only[qaP,List.length_map] at this
 simp only[qaP,List.map_append,List.map_cons]
 rw[this];rfl
set_option maxHeartbeats 4000000 in
theorem qkS (m:Md)(N I lab:Int)(c1 c4 kx:List T)(h1:∀D,clL D c1=true)(h4:∀D,clL D c4=true)(hkx:∀D,clL D kx=true)  (ks:List Int)(hl:ks.length≤1000000)(Q:IExit→(Nat→T)→Heap→Prop):∀(rest pre:List Int) (n:Nat),ks=pre++rest→pre.length=n→
 (∀i:Int,Q (.exit 2) (ofL [(2,.ref 0 10 0),(5,.nil),(8,.ref 706 2 0),(15,.list kx),(16,.int .i64 N),(17,.int .i64 I),(40,.list (qac (qaP ks))),(41,.int .i64 ks.length),(42,.int .i64 i),(43,.bool false)]) (hpL ([(0,sM m),(1,.live ⟨25,c1⟩),(402,.live ⟨25,c4⟩),(706,sN [.int .i64 lab,qdL 1105 ks])]++qdK 1105 3 ks)))→
 WL Tryz.prog 60 qfK (ofL [(2,.ref 0 10 0),(5,.nil),(8,.ref 706 2 0),(15,.list kx),(16,.int .i64 N),(17,.int .i64 I),(40,.list (qac (qaP ks))),(41,.int .i64 ks.length),(42,.int .i64 n)]) (hpL ([(0,sM m),(1,.live ⟨25,c1⟩),(402,.live ⟨25,c4⟩),(706,sN [.int .i64 lab,qdL 1105 pre])]++qdK 1105 3 pre)) Q:=by
 have hmc:∀D,clL D (mdC m)=true:=fun D=>by simp
 have hal:(qac (qaP ks)).length=ks.length:=by rw[qag,qcF]
 intro rest
 induction rest with
 | nil=>
  intro pre n he hn hQ
  have hd:decide ((n:Int)<(ks.length:Int))=false:=by simp[he,hn]
  simp only[List.append_nil] at he
  subst he
  simp only[List.cons_append,List.nil_append] at hQ ⊢
  have fX:=@hd
  refine qaa qfK.eq_1 ?_
  refine wR0 900 [2,5,8,15,16,17,40,41,42,43] fX ?_
  refine wF @hd ?_
  refine wX ?_
  refine wN ?_
  exact hQ _
 | cons k rest ih=>
  intro pre n he hn hQ
  have hlt:(n:Int)<(ks.length:Int):=by rw[he];simp;omega
  have hlb:n≤1000000:=by rw[he] at hl;simp at hl;omega
  have hd:decide ((n:Int)<(ks.length:Int))=true:=decide_eq_true hlt
  have hg:(qac (qaP ks)).getD (n:Int).toNat .undef=.agg [.int .i64 k,.list []]:=by rw[Int.toNat_natCast,he,←hn];exact qns _ k _
  have hw:IntKind.wrap .i64 ((n:Int)+1)=((n+1:Nat):Int):=by rw[wrap64 (by omega) (by omega)];rfl
  have hQ':=ih (pre++[k]) (n+1) (by simpa using he) (by simp[hn]) hQ
  cases pre with
  | nil=>
   simp only[qdL,qdK,List.append_nil,List.cons_append,List.nil_append] at hQ' ⊢
   have fX:=(cJ5 @hd @hg @hw @qaI @hal)
   refine qaa qfK.eq_1 ?_
   refine W_gc ?_
   refine wR0 900 [2,5,8,15,16,17,40,41,42,43] fX ?_
   refine wT fX ?_
   refine wR0 1000 [2,5,8,10,15,16,17,40,41,42] fX ?_
   refine wR0 1100 [2,5,8,15,16,17,40,41,42] fX ?_
   refine wR0 1200 [2,5,8,15,16,17,40,41,42] fX ?_
   refine wN ?_
   refine qaC [0,1,402,706,1105] (by simp[inL]) (by simp[inL,T.cl,hkx]) (by simp[qam,inL,Slot.cl,T.cl,clL,hmc,h1,h4]) ?_
   simpa [qam,inL,qab] using hQ'
  | cons p pre=>
   have hp:pre.length+1≤1000000:=by simp at hn;omega
   have hs:qab (p::(pre++[k]))=qab (p::pre)++[.int .i64 k]:=by simp[qab]
   simp only[qdL,qdK,List.cons_append,List.nil_append,hs,List.length_append,List.length_cons,List.length_nil,Nat.zero_add] at hQ' ⊢
   have fX:=(cJ6 @hd @hg @hw @qaI @hal @qah)
   refine qaa qfK.eq_1 ?_
   refine W_gc ?_
   refine wR0 900 [2,5,8,15,16,17,40,41,42,43] fX ?_
   refine wT fX ?_
   refine wR0 1000 [2,5,8,10,15,16,17,40,41,42] fX ?_
   refine wR0 1100 [2,5,8,15,16,17,40,41,42] fX ?_
   refine wR0 1200 [2,5,8,15,16,17,40,41,42] fX ?_
   refine wN ?_
   refine qaC [0,1,402,706,1105] (by simp[inL]) (by simp[inL,T.cl,hkx]) (by simp[qam,inL,Slot.cl,T.cl,clL,qao,qae,hmc,h1,h4]) ?_
   simpa [qam,inL] using hQ'
set_option maxHeartbeats 4000000 in
theorem qkT (m:Md)(N I lab:Int)(c1 c4 kx:List T)(h1:∀D,clL D c1=true)(h4:∀D,clL D c4=true)(hkx:∀D,clL D kx=true)(dz:List T)(hdz:∀D,clL D dz=true)(tz nz:Nat)(ks:List Int)(hl:ks.length≤1000000)(Q:IExit→(Nat→T)→Heap→Prop):∀(rest pre:List Int) (n:Nat),ks=pre++rest→pre.length=n→
 (∀i:Int,Q (.exit 2) (ofL [(2,.ref 0 10 0),(5,(.sl 1303 tz 2 0 nz)),(8,.ref 706 2 0),(15,.list kx),(16,.int .i64 N),(17,.int .i64 I),(40,.list (qac (qaP ks))),(41,.int .i64 ks.length),(42,.int .i64 i),(43,.bool false)]) (hpL ([(0,sM m),(1,.live ⟨25,c1⟩),(1303,sN dz),(402,.live ⟨25,c4⟩),(706,sN [.int .i64 lab,qdL 1105 ks])]++qdK 1105 3 ks)))→
 WL Tryz.prog 60 qfK (ofL [(2,.ref 0 10 0),(5,(.sl 1303 tz 2 0 nz)),(8,.ref 706 2 0),(15,.list kx),(16,.int .i64 N),(17,.int .i64 I),(40,.list (qac (qaP ks))),(41,.int .i64 ks.length),(42,.int .i64 n)]) (hpL ([(0,sM m),(1,.live ⟨25,c1⟩),(1303,sN dz),(402,.live ⟨25,c4⟩),(706,sN [.int .i64 lab,qdL 1105 pre])]++qdK 1105 3 pre)) Q:=by
 have hmc:∀D,clL D (mdC m)=true:=fun D=>by simp
 have hal:(qac (qaP ks)).length=ks.length:=by rw[qag,qcF]
 intro rest
 induction rest with
 | nil=>
  intro pre n he hn hQ
  have hd:decide ((n:Int)<(ks.length:Int))=false:=by simp[he,hn]
  simp only[List.append_nil] at he
  subst he
  simp only[List.cons_append,List.nil_append] at hQ ⊢
  have fX:=@hd
  refine qaa qfK.eq_1 ?_
  refine wR0 900 [2,5,8,15,16,17,40,41,42,43] fX ?_
  refine wF @hd ?_
  refine wX ?_
  refine wN ?_
  exact hQ _
 | cons k rest ih=>
  intro pre n he hn hQ
  have hlt:(n:Int)<(ks.length:Int):=by rw[he];simp;omega
  have hlb:n≤1000000:=by rw[he] at hl;simp at hl;omega
  have hd:decide ((n:Int)<(ks.length:Int))=true:=decide_eq_true hlt
  have hg:(qac (qaP ks)).getD (n:Int).toNat .undef=.agg [.int .i64 k,.list []]:=by rw[Int.toNat_natCast,he,←hn];exact qns _ k _
  have hw:IntKind.wrap .i64 ((n:Int)+1)=((n+1:Nat):Int):=by rw[wrap64 (by omega) (by omega)];rfl
  have hQ':=ih (pre++[k]) (n+1) (by simpa using he) (by simp[hn]) hQ
  cases pre with
  | nil=>
   simp only[qdL,qdK,List.append_nil,List.cons_append,List.nil_append] at hQ' ⊢
   have fX:=(cJ5 @hd @hg @hw @qaI @hal)
   refine qaa qfK.eq_1 ?_
   refine W_gc ?_
   refine wR0 900 [2,5,8,15,16,17,40,41,42,43] fX ?_
   refine wT fX ?_
   refine wR0 1000 [2,5,8,10,15,16,17,40,41,42] fX ?_
   refine wR0 1100 [2,5,8,15,16,17,40,41,42] fX ?_
   refine wR0 1200 [2,5,8,15,16,17,40,41,42] fX ?_
   refine wN ?_
   refine qaC [0,1,1303,402,706,1105] (by simp[inL]) (by simp[inL,T.cl,hkx]) (by simp[qam,inL,Slot.cl,T.cl,clL,hmc,h1,h4,hdz]) ?_
   simpa [qam,inL,qab] using hQ'
  | cons p pre=>
   have hp:pre.length+1≤1000000:=by simp at hn;omega
   have hs:qab (p::(pre++[k]))=qab (p::pre)++[.int .i64 k]:=by simp[qab]
   simp only[qdL,qdK,List.cons_append,List.nil_append,hs,List.length_append,List.length_cons,List.length_nil,Nat.zero_add] at hQ' ⊢
   have fX:=(cJ6 @hd @hg @hw @qaI @hal @qah)
   refine qaa qfK.eq_1 ?_
   refine W_gc ?_
   refine wR0 900 [2,5,8,15,16,17,40,41,42,43] fX ?_
   refine wT fX ?_
   refine wR0 1000 [2,5,8,10,15,16,17,40,41,42] fX ?_
   refine wR0 1100 [2,5,8,15,16,17,40,41,42] fX ?_
   refine wR0 1200 [2,5,8,15,16,17,40,41,42] fX ?_
   refine wN ?_
   refine qaC [0,1,1303,402,706,1105] (by simp[inL]) (by simp[inL,T.cl,hkx]) (by simp[qam,inL,Slot.cl,T.cl,clL,qao,qae,hmc,h1,h4,hdz]) ?_
   simpa [qam,inL] using hQ'
theorem node2 (x:Nd):encV (qaD 2 x)=.agg [.int .i64 0,.list [.agg [.int .i64 x.lab,.list []],.agg [.int .i64 0,.list (qac (qaP x.kids))]]]:=rfl
theorem node1 (x:Nd):encV (qaD 1 x)=.agg [.int .i64 x.lab,.list []]:=rfl
theorem qkR (L:Int)(pre:List Nd)(x:Nd)(rest:List Nd):(qac ((pre++x::rest).map (qaD L))).getD pre.length .undef=encV (qaD L x):=by
 have:=qaU (pre.map (qaD L)) (qaD L x) (rest.map (qaD L))
 rw[List.length_map] at this
 rw[List.map_append,List.map_cons]
 exact this
theorem qqj {H:Heap}{D:Nat→Bool}{id:Nat}(k:Int)(ks:List Int)(hb:H id=.live ⟨3,qab (k::ks)⟩)(hd:D id=false):Fz H D (.sl id (ks.length+1) 0 0 (ks.length+1)) (.list (qab (k::ks))):=qdp (k::ks) hb hd (by simp) (by simp)
set_option maxHeartbeats 8000000 in
theorem qsV (m:Md)(hlv:(m.levels==1)=false)(c1:List T)(h1:∀D,clL D c1=true)(o1:Ones c1)(l:List Nd)(hl:l.length≤1000000)(hk:∀x∈l,x.kids.length≤1000000)(Q:IExit→(Nat→T)→Heap→Prop):∀(rest pre:List Nd) (n:Nat),l=pre++rest→pre.length=n→
 (∀i:Int,Q (.exit 0) (ofL [(2,.ref 0 10 0),(5,qf0 1303 (l.map nN)),(15,.list (qac (l.map (qaD 2)))),(16,.int .i64 l.length),(17,.int .i64 i),(18,.bool false)]) (hpL ([(0,sM m),(1,.live ⟨25,c1⟩)]++qfZ 1303 (l.map nN))))→
 WL Tryz.prog 60 qep (ofL [(2,.ref 0 10 0),(5,qf0 1303 (pre.map nN)),(15,.list (qac (l.map (qaD 2)))),(16,.int .i64 l.length),(17,.int .i64 n)]) (hpL ([(0,sM m),(1,.live ⟨25,c1⟩)]++qfZ 1303 (pre.map nN))) Q:=by
 have hmc:∀D,clL D (mdC m)=true:=fun D=>by simp
 have hmo:=qco m
 have hal:(qac (l.map (qaD 2))).length=l.length:=by rw[qag,List.length_map]
 intro rest
 induction rest with
 | nil=>
  intro pre n he hn hQ
  have hd:decide ((n:Int)<(l.length:Int))=false:=by simp[he,hn]
  simp only[List.append_nil] at he
  subst he
  simp only[List.cons_append,List.nil_append] at hQ ⊢
  have fX:=@hd
  refine qaa qep.eq_1 ?_
  refine wR0 300 [2,5,15,16,17,18] fX ?_
  refine wF @hd ?_
  refine wX ?_
  refine wN ?_
  exact hQ _
 | cons x rest ih=>
  intro pre n he hn hQ
  have hlt:(n:Int)<(l.length:Int):=by rw[he];simp;omega
  have hlb:n≤1000000:=by rw[he] at hl;simp at hl;omega
  have hkx:=hk x (by rw[he];simp)
  have hd:decide ((n:Int)<(l.length:Int))=true:=decide_eq_true hlt
  have hg:(qac (l.map (qaD 2))).getD (n:Int).toNat .undef=.agg [.int .i64 0,.list [.agg [.int .i64 x.lab,.list []],.agg [.int .i64 0,.list (qac (qaP x.kids))]]]:=by rw[Int.toNat_natCast,←node2,he,←hn];exact qkR 2 pre x rest
  have hw:IntKind.wrap .i64 ((n:Int)+1)=((n+1:Nat):Int):=by rw[wrap64 (by omega) (by omega)];rfl
  have hz0:([T.agg [.int .i64 x.lab,.list []],T.agg [.int .i64 0,.list (qac (qaP x.kids))]]:List T).getD (0:Int).toNat .undef=.agg [.int .i64 x.lab,.list []]:=rfl
  have hz1:([T.agg [.int .i64 x.lab,.list []],T.agg [.int .i64 0,.list (qac (qaP x.kids))]]:List T).getD (1:Int).toNat .undef=.agg [.int .i64 0,.list (qac (qaP x.kids))]:=rfl
  have hb0:(0:Int)<(([T.agg [.int .i64 x.lab,.list []],T.agg [.int .i64 0,.list (qac (qaP x.kids))]]:List T).length:Int):=by simp
  have hb1:(1:Int)<(([T.agg [.int .i64 x.lab,.list []],T.agg [.int .i64 0,.list (qac (qaP x.kids))]]:List T).length:Int):=by simp
  have hlk:(qac (qaP x.kids)).length=x.kids.length:=by rw[qag,qcF]
  have hQ':=ih (pre++[x]) (n+1) (by simpa using he) (by simp[hn]) hQ
  rcases hxk:x.kids with _ | ⟨k,ks⟩
  ·have hnx:nN x=(x.lab,.nil):=by rw[nN,hxk];rfl
   cases pre with
   | nil=>
    simp only[List.map_cons,List.map_nil,List.nil_append,qf0,qfZ,List.append_nil,List.cons_append,hnx] at hQ' ⊢
    have fX:=(cJ8 @hd @hg @hw @hz0 @hz1 @qaI @hal @hlk)
    refine qaa qep.eq_1 ?_
    refine W_gc ?_
    refine wR0 300 [2,5,15,16,17,18] fX ?_
    refine wT fX ?_
    refine wR0 400 [2,5,7,15,16,17] fX ?_
    refine wR0 500 [2,5,7,15,16,17,23] (cJ3 @mdC.eq_1 @hlv fX) ?_
    refine wF fX ?_
    refine wR0 700 [2,5,7,8,15,16,17] fX ?_
    refine wR0 800 [2,5,8,15,16,17,40,41,42] fX ?_
    refine wL ?_
    refine qkS m l.length n x.lab c1 [T.int .i64 0,.list [.agg [.int .i64 x.lab,.list []],.agg [.int .i64 0,.list (qac (qaP x.kids))]]] (qac (l.map (qaD 2))) h1 (fun D=>by simp[clL,T.cl,qai]) (fun D=>qai D _)  x.kids hkx _ x.kids [] 0 rfl rfl ?_
    ·intro i
     refine wN ?_
     rw[hxk]
     simp only[qdL,qdK,List.append_nil]
     refine wR0 1300 [2,5,15,16,17] fX ?_
     simp only[thn,inB]
     skip
     refine wR0 1400 [2,5,15,16,17] fX ?_
     refine wN ?_
     refine qaC [0,1,1303] (by simp[inL]) (by simp[inL,T.cl,qai]) (by simp[qam,inL,Slot.cl,T.cl,clL,hmc,h1]) ?_
     simpa [qam,inL,qaF] using hQ'
   | cons p pre=>
    have hp:pre.length+1≤1000000:=by simp at hn;omega
    have hs:qaF (nN p::(pre.map nN++[(x.lab,.nil)]))=qaF (nN p::pre.map nN)++[.int .i64 x.lab,.nil]:=by simp[qaF]
    have hm2:(pre.length+1+1)*2=(pre.length+1)*2+2:=by omega
    have hcl:=fun D=>qbR D (p::pre)
    simp only[List.map_cons] at hcl
    simp only[List.map_cons,List.map_append,List.map_nil,qf0,qfZ,List.cons_append,List.nil_append,hnx,hs,List.length_append,List.length_map,List.length_cons,List.length_nil,Nat.zero_add,hm2] at hQ' ⊢
    have fX:=(cJ8 @hd @hg @hw @hz0 @hz1 @qaI @hal (cJ3 @hlk @qbd @List.length_map.{0,0}))
    refine qaa qep.eq_1 ?_
    refine W_gc ?_
    refine wR0 300 [2,5,15,16,17,18] fX ?_
    refine wT fX ?_
    refine wR0 400 [2,5,7,15,16,17] fX ?_
    refine wR0 500 [2,5,7,15,16,17,23] (cJ3 @mdC.eq_1 @hlv fX) ?_
    refine wF fX ?_
    refine wR0 700 [2,5,7,8,15,16,17] fX ?_
    refine wR0 800 [2,5,8,15,16,17,40,41,42] fX ?_
    refine wL ?_
    refine qkT m l.length n x.lab c1 [T.int .i64 0,.list [.agg [.int .i64 x.lab,.list []],.agg [.int .i64 0,.list (qac (qaP x.kids))]]] (qac (l.map (qaD 2))) h1 (fun D=>by simp[clL,T.cl,qai]) (fun D=>qai D _) (qaF (nN p::pre.map nN)) hcl ((pre.length+1)*2) (pre.length+1) x.kids hkx _ x.kids [] 0 rfl rfl ?_
    ·intro i
     refine wN ?_
     rw[hxk]
     simp only[qdL,qdK,List.append_nil]
     refine wR0 1300 [2,5,15,16,17] fX ?_
     simp only[thn,inB]
     skip
     refine wR0 1400 [2,5,15,16,17] fX ?_
     refine wN ?_
     refine qaC [0,1,1303] (by simp[inL]) (by simp[inL,T.cl,qai]) (by simp[qam,inL,Slot.cl,T.cl,clL,qao,hmc,h1,hcl]) ?_
     simpa [qam,inL] using hQ'
  ·have hnx:nN x=(x.lab,.list (qab (k::ks))):=by rw[nN,hxk];rfl
   have hkl:ks.length+1≤1000000:=by rw[hxk] at hkx;simpa using hkx
   cases pre with
   | nil=>
    simp only[List.map_cons,List.map_nil,List.nil_append,qf0,qfZ,List.append_nil,List.cons_append,hnx] at hQ' ⊢
    have fX:=(cJ8 @hd @hg @hw @hz0 @hz1 @qaI @hal @hlk)
    refine qaa qep.eq_1 ?_
    refine W_gc ?_
    refine wR0 300 [2,5,15,16,17,18] fX ?_
    refine wT fX ?_
    refine wR0 400 [2,5,7,15,16,17] fX ?_
    refine wR0 500 [2,5,7,15,16,17,23] (cJ3 @mdC.eq_1 @hlv fX) ?_
    refine wF fX ?_
    refine wR0 700 [2,5,7,8,15,16,17] fX ?_
    refine wR0 800 [2,5,8,15,16,17,40,41,42] fX ?_
    refine wL ?_
    refine qkS m l.length n x.lab c1 [T.int .i64 0,.list [.agg [.int .i64 x.lab,.list []],.agg [.int .i64 0,.list (qac (qaP x.kids))]]] (qac (l.map (qaD 2))) h1 (fun D=>by simp[clL,T.cl,qai]) (fun D=>qai D _)  x.kids hkx _ x.kids [] 0 rfl rfl ?_
    ·intro i
     refine wN ?_
     rw[hxk]
     simp only[qdL,qdK,List.nil_append,List.cons_append]
     refine wR0 1300 [2,5,15,16,17] fX ?_
     simp only[thn,inB]
     refine qbW (l':=[(2,.ref 0 10 0),(5,.sl 1303 2 2 0 1),(15,.list (qac (l.map (qaD 2)))),(16,.int .i64 l.length),(17,.int .i64 n)]) (hl':=[(0,_),(1,_),(402,.dead),(706,.dead),(1105,.dead),(1302,.dead),(1303,sN [.int .i64 x.lab,.list (qab (k::ks))])]) [0,1,1303] (.cons (.same rfl) (.cons (.same rfl) (.cons (.same (by simp[T.cl,qai])) (.cons (.same rfl) (.cons (.same rfl) .nil))))) (.keep rfl (.liveS (hmc _) hmo) (.keep rfl (.liveS (h1 _) o1) (.dead rfl (fun h=>by cases h) (.dead rfl (fun h=>by cases h) (.dead rfl (fun h=>by cases h) (.dead rfl (fun h=>by cases h) (.keep rfl (.liveL (.cons (.same rfl) (.cons (qqj k ks rfl rfl) .nil)) rfl) .nil))))))) ?_
     refine wR0 1400 [2,5,15,16,17] fX ?_
     refine wN ?_
     refine qaC [0,1,1303] (by simp[inL]) (by simp[inL,T.cl,qai]) (by simp[qam,inL,Slot.cl,T.cl,clL,hmc,h1,qae]) ?_
     simpa [qam,inL,qaF] using hQ'
   | cons p pre=>
    have hp:pre.length+1≤1000000:=by simp at hn;omega
    have hs:qaF (nN p::(pre.map nN++[(x.lab,.list (qab (k::ks)))]))=qaF (nN p::pre.map nN)++[.int .i64 x.lab,.list (qab (k::ks))]:=by simp[qaF]
    have hm2:(pre.length+1+1)*2=(pre.length+1)*2+2:=by omega
    have hcl:=fun D=>qbR D (p::pre)
    have hco:=qho (p::pre)
    simp only[List.map_cons] at hcl hco
    simp only[List.map_cons,List.map_append,List.map_nil,qf0,qfZ,List.cons_append,List.nil_append,hnx,hs,List.length_append,List.length_map,List.length_cons,List.length_nil,Nat.zero_add,hm2] at hQ' ⊢
    have fX:=(cJ8 @hd @hg @hw @hz0 @hz1 @qaI @hal (cJ3 @hlk @qbd @List.length_map.{0,0}))
    refine qaa qep.eq_1 ?_
    refine W_gc ?_
    refine wR0 300 [2,5,15,16,17,18] fX ?_
    refine wT fX ?_
    refine wR0 400 [2,5,7,15,16,17] fX ?_
    refine wR0 500 [2,5,7,15,16,17,23] (cJ3 @mdC.eq_1 @hlv fX) ?_
    refine wF fX ?_
    refine wR0 700 [2,5,7,8,15,16,17] fX ?_
    refine wR0 800 [2,5,8,15,16,17,40,41,42] fX ?_
    refine wL ?_
    refine qkT m l.length n x.lab c1 [T.int .i64 0,.list [.agg [.int .i64 x.lab,.list []],.agg [.int .i64 0,.list (qac (qaP x.kids))]]] (qac (l.map (qaD 2))) h1 (fun D=>by simp[clL,T.cl,qai]) (fun D=>qai D _) (qaF (nN p::pre.map nN)) hcl ((pre.length+1)*2) (pre.length+1) x.kids hkx _ x.kids [] 0 rfl rfl ?_
    ·intro i
     refine wN ?_
     rw[hxk]
     simp only[qdL,qdK,List.nil_append,List.cons_append]
     refine wR0 1300 [2,5,15,16,17] fX ?_
     simp only[thn,inB]
     refine qbW (l':=[(2,.ref 0 10 0),(5,.sl 1303 ((pre.length+1)*2+2) 2 0 (pre.length+1+1)),(15,.list (qac (l.map (qaD 2)))),(16,.int .i64 l.length),(17,.int .i64 n)]) (hl':=[(0,_),(1,_),(1303,sN (qaF (nN p::pre.map nN)++[.int .i64 x.lab,.list (qab (k::ks))])),(402,.dead),(706,.dead),(1105,.dead),(1302,.dead)]) [0,1,1303] (.cons (.same rfl) (.cons (.same rfl) (.cons (.same (by simp[T.cl,qai])) (.cons (.same rfl) (.cons (.same rfl) .nil))))) (.keep rfl (.liveS (hmc _) hmo) (.keep rfl (.liveS (h1 _) o1) (.keep rfl (.liveApp (hcl _) hco (.cons (.same rfl) (.cons (qqj k ks rfl rfl) .nil)) rfl) (.dead rfl (fun h=>by cases h) (.dead rfl (fun h=>by cases h) (.dead rfl (fun h=>by cases h) (.dead rfl (fun h=>by cases h) .nil))))))) ?_
     refine wR0 1400 [2,5,15,16,17] fX ?_
     refine wN ?_
     refine qaC [0,1,1303] (by simp[inL]) (by simp[inL,T.cl,qai]) (by simp[qam,inL,Slot.cl,T.cl,clL,qao,hmc,h1,qae,hcl]) ?_
     simpa [qam,inL] using hQ'
theorem qsU (m:Md)(hlv:(m.levels==1)=true)(c1:List T)(h1:∀D,clL D c1=true)(l:List Nd)(hl:l.length≤1000000)(hlf:∀x∈l,x.kids=[])(Q:IExit→(Nat→T)→Heap→Prop):∀(rest pre:List Nd) (n:Nat),l=pre++rest→pre.length=n→
 (∀i:Int,Q (.exit 0) (ofL [(2,.ref 0 10 0),(5,qf0 605 (l.map nN)),(15,.list (qac (l.map (qaD 1)))),(16,.int .i64 l.length),(17,.int .i64 i),(18,.bool false)]) (hpL ([(0,sM m),(1,.live ⟨25,c1⟩)]++qfZ 605 (l.map nN))))→
 WL Tryz.prog 60 qep (ofL [(2,.ref 0 10 0),(5,qf0 605 (pre.map nN)),(15,.list (qac (l.map (qaD 1)))),(16,.int .i64 l.length),(17,.int .i64 n)]) (hpL ([(0,sM m),(1,.live ⟨25,c1⟩)]++qfZ 605 (pre.map nN))) Q:=by
 have hmc:∀D,clL D (mdC m)=true:=fun D=>by simp
 have hal:(qac (l.map (qaD 1))).length=l.length:=by rw[qag,List.length_map]
 intro rest
 induction rest with
 | nil=>
  intro pre n he hn hQ
  have hd:decide ((n:Int)<(l.length:Int))=false:=by simp[he,hn]
  simp only[List.append_nil] at he
  subst he
  simp only[List.cons_append,List.nil_append] at hQ ⊢
  have fX:=@hd
  refine qaa qep.eq_1 ?_
  refine wR0 300 [2,5,15,16,17,18] fX ?_
  refine wF @hd ?_
  refine wX ?_
  refine wN ?_
  exact hQ _
 | cons x rest ih=>
  intro pre n he hn hQ
  have hlt:(n:Int)<(l.length:Int):=by rw[he];simp;omega
  have hlb:n≤1000000:=by rw[he] at hl;simp at hl;omega
  have hxk:=hlf x (by rw[he];simp)
  have hd:decide ((n:Int)<(l.length:Int))=true:=decide_eq_true hlt
  have hg:(qac (l.map (qaD 1))).getD (n:Int).toNat .undef=.agg [.int .i64 x.lab,.list []]:=by rw[Int.toNat_natCast,←node1,he,←hn];exact qkR 1 pre x rest
  have hw:IntKind.wrap .i64 ((n:Int)+1)=((n+1:Nat):Int):=by rw[wrap64 (by omega) (by omega)];rfl
  have hQ':=ih (pre++[x]) (n+1) (by simpa using he) (by simp[hn]) hQ
  have hnx:nN x=(x.lab,.nil):=by rw[nN,hxk];rfl
  cases pre with
  | nil=>
   simp only[List.map_cons,List.map_nil,List.nil_append,qf0,qfZ,List.append_nil,List.cons_append,hnx] at hQ' ⊢
   have fX:=(cJ5 @hd @hg @hw @qaI @hal)
   refine qaa qep.eq_1 ?_
   refine W_gc ?_
   refine wR0 300 [2,5,15,16,17,18] fX ?_
   refine wT fX ?_
   refine wR0 400 [2,5,7,15,16,17] fX ?_
   refine wR0 500 [2,5,7,15,16,17,23] (cJ3 @mdC.eq_1 @hlv fX) ?_
   refine wT fX ?_
   refine wR0 600 [2,5,15,16,17] fX ?_
   refine wX ?_
   refine wR0 1400 [2,5,15,16,17] fX ?_
   refine wN ?_
   refine qaC [0,1,605] (by simp[inL]) (by simp[inL,T.cl,qai]) (by simp[qam,inL,Slot.cl,T.cl,clL,hmc,h1]) ?_
   simpa [qam,inL,qaF] using hQ'
  | cons p pre=>
   have hp:pre.length+1≤1000000:=by simp at hn;omega
   have hs:qaF (nN p::(pre.map nN++[(x.lab,.nil)]))=qaF (nN p::pre.map nN)++[.int .i64 x.lab,.nil]:=by simp[qaF]
   have hm2:(pre.length+1+1)*2=(pre.length+1)*2+2:=by omega
   have hcl:=fun D=>qbR D (p::pre)
   simp only[List.map_cons] at hcl
   simp only[List.map_cons,List.map_append,List.map_nil,qf0,qfZ,List.cons_append,List.nil_append,hnx,hs,List.length_append,List.length_map,List.length_cons,List.length_nil,Nat.zero_add,hm2] at hQ' ⊢
   have fX:=(cJ7 @hd @hg @hw @qaI @hal @qbd @List.length_map.{0,0})
   refine qaa qep.eq_1 ?_
   refine W_gc ?_
   refine wR0 300 [2,5,15,16,17,18] fX ?_
   refine wT fX ?_
   refine wR0 400 [2,5,7,15,16,17] fX ?_
   refine wR0 500 [2,5,7,15,16,17,23] (cJ3 @mdC.eq_1 @hlv fX) ?_
   refine wT fX ?_
   refine wR0 600 [2,5,15,16,17] fX ?_
   refine wX ?_
   refine wR0 1400 [2,5,15,16,17] fX ?_
   refine wN ?_
   refine qaC [0,1,605] (by simp[inL]) (by simp[inL,T.cl,qai]) (by simp[qam,inL,Slot.cl,T.cl,clL,qao,hmc,h1,hcl]) ?_
   simpa [qam,inL] using hQ'
theorem frzN {H:Heap}{id:Nat}(x:Nd)(l:List Nd)(hb:H id=sN (qaF (nN x::l.map nN))):Frz H (.sl id ((l.length+1)*2) 2 0 (l.length+1)) (ndsT (x::l)):=by
 have h:=frzC (H:=H) (id:=id) (ty:=100) (n:=l.length+1) (tot:=(l.length+1)*2) ((x::l).map nN) ((x::l).map nN) [] (by rw[List.append_nil];exact hb) (by simp) (by rw[List.append_nil,qbd];simp) (qps _) (fun b hb=>by
  obtain⟨y,_,rfl⟩:=List.mem_map.1 hb
  exact qnq _)
 exact h
set_option maxHeartbeats 4000000 in
theorem qkQ (m:Md)(hv:m.levels=1∨m.levels=2)(s:Int)(l:List Nd)(hl:l.length≤1000000)(hlf:qdB m.levels l)(hk:∀x∈l,x.kids.length≤1000000):TP Tryz.prog 39 [qax m,encV (cfgN m.levels s l)] (ndsT l):=by
 have hal:∀L,(qac (l.map (qaD L))).length=l.length:=fun L=>by rw[qag,List.length_map]
 have hz1:∀L,([T.agg [.int .i64 s,.list []],T.agg [.int .i64 0,.list (qac (l.map (qaD L)))]]:List T).getD (1:Int).toNat .undef=.agg [.int .i64 0,.list (qac (l.map (qaD L)))]:=fun L=>rfl
 have hb1:∀L,(1:Int)<(([T.agg [.int .i64 s,.list []],T.agg [.int .i64 0,.list (qac (l.map (qaD L)))]]:List T).length:Int):=fun L=>by simp
 have hc1:∀L D,clL D [T.int .i64 0,.list [.agg [.int .i64 s,.list []],.agg [.int .i64 0,.list (qac (l.map (qaD L)))]]]=true:=fun L D=>by simp[clL,T.cl,qai]
 have ho1:∀L,Ones [T.int .i64 0,.list [.agg [.int .i64 s,.list []],.agg [.int .i64 0,.list (qac (l.map (qaD L)))]]]:=fun L c hc=>by
  simp only[List.mem_cons,List.not_mem_nil,or_false] at hc
  rcases hc with rfl | rfl<;>rfl
 rcases hv with hL | hL
 ·have hlv:(m.levels==1)=true:=by simp[hL]
  have hz1:=hz1 1
  have hb1:=hb1 1
  have hal:=hal 1
  rw[hL] at hlf ⊢
  have fX:=(cJ2 @hz1 @hal)
  refine qan fn39 (by simp) ?_
  unfold i39
  simp only[argL,encV,qax,cfgN,bagV,qac]
  refine wR0 0 [2,3] fX ?_
  refine wR0 100 [2,3,5] fX ?_
  refine wR0 200 [2,5,15,16,17] fX ?_
  refine wL ?_
  refine qsU m hlv _ (hc1 1) l hl (hlf (by omega)) _ l [] 0 rfl rfl ?_
  ·intro i
   refine wN ?_
   refine wN ?_
   rcases l with _ | ⟨x,l⟩
   ·skip
    refine wN ?_
    simp only[List.map_nil,qf0,qfZ,ndsT]
    refine wR0 1500 [4] fX ?_
    refine wP ?_
    first | exact .same rfl | exact frzN x l rfl
   ·skip
    refine wN ?_
    simp only[List.map_cons,qf0,qfZ,ndsT,List.length_map]
    refine wR0 1500 [4] fX ?_
    refine wP ?_
    first | exact .same rfl | exact frzN x l rfl
 ·have hlv:(m.levels==1)=false:=by simp[hL]
  have hz1:=hz1 2
  have hb1:=hb1 2
  have hal:=hal 2
  rw[hL] at hlf ⊢
  have fX:=(cJ2 @hz1 @hal)
  refine qan fn39 (by simp) ?_
  unfold i39
  simp only[argL,encV,qax,cfgN,bagV,qac]
  refine wR0 0 [2,3] fX ?_
  refine wR0 100 [2,3,5] fX ?_
  refine wR0 200 [2,5,15,16,17] fX ?_
  refine wL ?_
  refine qsV m hlv _ (hc1 2) (ho1 2) l hl hk _ l [] 0 rfl rfl ?_
  ·intro i
   refine wN ?_
   refine wN ?_
   rcases l with _ | ⟨x,l⟩
   ·skip
    refine wN ?_
    simp only[List.map_nil,qf0,qfZ,ndsT]
    refine wR0 1500 [4] fX ?_
    refine wP ?_
    first | exact .same rfl | exact frzN x l rfl
   ·skip
    refine wN ?_
    simp only[List.map_cons,qf0,qfZ,ndsT,List.length_map]
    refine wR0 1500 [4] fX ?_
    refine wP ?_
    first | exact .same rfl | exact frzN x l rfl
end
end Go.Proofs.YtpplncjaihgimaaGreat
