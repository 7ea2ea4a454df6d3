/- Contracts of functions of the program, for all arguments that they name. -/
import Derived.Test.YtncpdpbpcnoeeaaGreatK10
import Derived.Test.YtncpdpbpcnoeeaaGreatK17
namespace Go.Proofs.YtncpdpbpcnoeeaaGreat
set_option linter.unusedVariables false
section
open Go.RowKit
set_option maxHeartbeats 2000000
theorem qiB (at_:Nat)(s:Int)(v:List Int):∀(rs:List Rl) (i:Nat) (l:List Nn),(qbv at_ s v rs i l).1=0∨(qbv at_ s v rs i l).1=1
 | [],_,_=>.inl rfl
 | r::rs,i,l=>by
  rw[qbv]
  split
  ·split
   ·exact qiB at_ s v rs _ _
   ·exact .inr rfl
  ·exact qiB at_ s v rs _ _
def qbJ (m:Md)(l:List Nn)(at_:Nat):Int×List Nn:=if (l.getD at_ default).vec∈upV l (l.getD at_ default).st (l.getD at_ default).par then (0,l) else qbv at_ (l.getD at_ default).st (l.getD at_ default).vec m.rules 0 l
def zR (e:Int):List (Nat×Slot):=if e=1 then [(203,.dead),(701,.dead)] else []
theorem qpR (m:Md)(hm:m.rules.length≤1000000)(at_:Nat)(next:Int)(n:Nn)(hv:n.vec≠[])(hvl:n.vec.length≤1000000)(hr:∀r∈m.rules,RoomR r n.vec)(l:List Nn)(ht:TreeOk n.vec.length l)(hat:at_<l.length)(x8 x38 x40:T)(Q:IExit→(Nat→T)→Heap→Prop)
 (hQ:Q .ret (ofL [(4,.ref 1 1 0)]) (hpL (gwL m (qbv at_ n.st n.vec m.rules 0 l).2 next n (qbv at_ n.st n.vec m.rules 0 l).1++zR (qbv at_ n.st n.vec m.rules 0 l).1))) :
 W Tryz.prog 101 qp2 (ofL (gwE m (.int .i64 at_) (.ref 7 4 0) x8 x38 x40)) (hpL (gwL m l next n 0)) Q:=by
 obtain⟨R,hR⟩:∃R,qbv at_ n.st n.vec m.rules 0 l=R:=⟨_,rfl⟩
 have hE:=qiB at_ n.st n.vec m.rules 0 l
 rw[hR] at hQ hE
 have hL:=fun Q h0 h1=>qpJ m hm at_ next n hv hvl hr R Q h0 h1 m.rules [] l rfl ht hat hR
 simp only[gwF,gwL,gwE,nnC,qaA,mdC,List.cons_append,List.nil_append] at hL hQ ⊢
 unfold qp2
 refine wR0 0 [1,4,5,6,46,47,48] cJ0 ?_
 refine wL ?_
 refine hL _ ?_ ?_
 ·intro h j
  refine wN ?_
  refine wR0 1000 [4] cJ0 ?_
  refine wE ?_
  refine wN ?_
  (rw[h] at hQ;exact hQ)
 ·intro h
  refine wN ?_
  (rw[h] at hQ;exact hQ)
theorem qpU {m:Md}{x5 x6 x8 x38 x40 x y:T}(t:Nat):ofL (gwE m x5 x6 x8 x38 y) t=qfS [39,40] [x,y] (ofL (gwE m x5 x6 x8 x38 x40)) t∨ofL (gwE m x5 x6 x8 x38 y) t=.undef:=by
 simp only[qfS,putE]
 by_cases h40:t=40
 ·subst h40;left;rfl
 ·by_cases h39:t=39
  ·subst h39;right;rfl
  ·left
   rw[if_neg h40,if_neg h39]
   simp only[qbk,qfA]
   repeat (split;rfl)
   first
    | rfl
    | (rw[if_neg (fun h=>h40 h.symm),if_neg (fun h=>h40 h.symm)])
    | simp[h40]
theorem qlX:∃r0 r1 r2 r3 r4 g assign body p7,Tryz.f54.body=some (.seq r0 (.seq r1 (.seq r2 (.seq r3 (.seq (.seq r4 (.block 0 (.rangeFunc g #[39,40] assign body))) p7)))))∧
 qah Tryz.prog 101 r0=some qpW∧qah Tryz.prog 101 r1=some qpX∧qah Tryz.prog 101 r2=some qpY∧qah Tryz.prog 101 r3=some qpZ∧qah Tryz.prog 101 r4=some qp0∧qah Tryz.prog 101 assign=some qp1∧qah Tryz.prog 101 body=some qnQ∧qah Tryz.prog 101 p7=some qp2∧opd g=some (.tmp 38):=
 ⟨_,_,_,_,_,_,_,_,_,rfl,by kernel_rfl,by kernel_rfl,by kernel_rfl,by kernel_rfl,by kernel_rfl,by kernel_rfl,by kernel_rfl,by kernel_rfl,by rfl⟩
set_option maxHeartbeats 4000000 in
theorem qpS (m:Md)(hm:m.rules.length≤1000000)(at_ N:Nat)(l:List Nn)(ht:TreeOk N l)(hN:0<N)(hvl:N≤1000000)(hat:at_<l.length)(hr:∀r∈m.rules,RoomR r (l.getD at_ default).vec) :
 TC Tryz.prog 54 [qaA m,.ref 702 2 0] (hpL [(700,sG l),(702,sGr l at_)]) (.int .i64 (qbJ m l at_).1) (hpL [(700,sG (qbJ m l at_).2),(702,sGr (qbJ m l at_).2 (at_+1:Nat))]):=by
 obtain⟨r0,r1,r2,r3,r4,g,assign,body,p7,hb,c0,c1,c2,c3,c4,c5,c6,c7,hg⟩:=qlX
 have hp:=ht.par
 have hlen:=ht.len
 have hl:l≠[]:=by intro e;rw[e] at hat;simp at hat
 obtain⟨n,hn⟩:∃n,l.getD at_ default=n:=⟨_,rfl⟩
 have hvn:n.vec.length=N:=by rw[←hn];exact ht.vec _ hat
 have hpn:=hp at_ hat
 rw[qbJ]
 rw[hn] at hr hpn ⊢
 have hv:n.vec≠[]:=by intro e;rw[e] at hvn;simp at hvn;omega
 obtain⟨R,hR⟩:∃R,(if n.vec∈upV l n.st n.par then ((0,l):Int×List Nn) else qbv at_ n.st n.vec m.rules 0 l)=R:=⟨_,rfl⟩
 rw[hR]
 have h70:hpL (gwN m l (at_+1:Nat) n) 700=sG l:=rfl
 have key:TC Tryz.prog 54 [qaA m,.ref 702 2 0] (hpL [(700,sG l),(702,sGr l at_)]) (.int .i64 R.1) (hpL (gwL m R.2 (at_+1:Nat) n R.1++zR R.1)):=by
  refine TC_X (N:=101) (rs:=[(4,some 0)]) Tryz.func54 hb (by kernel_rfl) Tryz.call54 (by kernel_rfl) (by simp) ?_
  refine qeU (qcW c0 ?_)
  refine qpK m l at_ _ ?_
  show XRun _ _ _ _ _ _ _
  refine qeU (qcW c1 ?_)
  refine qpL m l at_ _ _ _ _ _ _ ?_
  show XRun _ _ _ _ _ _ _
  refine qeU (qcW c2 ?_)
  refine qpM m l at_ hat _ _ _ _ _ ?_
  rw[hn]
  show XRun _ _ _ _ _ _ _
  refine qeU (qcW c3 ?_)
  refine qpN m l at_ (by omega) n _ _ _ _ ?_
  show XRun _ _ _ _ _ _ _
  refine qeU (qeU (qcW c4 ?_))
  refine qpO m l _ _ n _ _ _ _ ?_
  show XRun _ _ _ _ _ _ _
  refine qip ?_
  refine X_rng (caps:=qeB 700 l (at_+1:Nat) n.par n.st) (xs:=upX l (upL l n.st n.par)) hg rfl (qni hp hl (by omega) ⟨hpn.1,by omega⟩ h70) (fun q hq=>by
   simp only[List.mem_cons,List.not_mem_nil,or_false] at hq
   rcases hq with rfl | rfl<;>decide) (fun x hx=>by
   obtain⟨j,_,rfl⟩:=List.mem_map.1 hx;rfl) (fun k=>(upV l n.st n.par).getD k []≠n.vec) (fun k e H'=>e=.ret∧(upV l n.st n.par).getD k []=n.vec∧H'=hpL (gwN m l (at_+1:Nat) n)) ?_ ?_ ?_
  ·intro k hk _ lp
   have hk':k<(upL l n.st n.par).length:=by simpa [upX] using hk
   have hjl:=qnh hp n.st n.par (by omega) _ (List.getElem_mem hk')
   obtain⟨a,haE⟩:∃a,(upV l n.st n.par).getD k []=a:=⟨_,rfl⟩
   have haV:(l.getD (upL l n.st n.par)[k] default).vec=a:=by rw[←haE];simp[upV,List.getD_eq_getElem?_getD,hk']
   have hal:a.length=N:=by rw[←haV];exact ht.vec _ hjl
   have hxs:(upX l (upL l n.st n.par)).getD k []=[.int .i64 (((upL l n.st n.par)[k]:Nat):Int),.list (qab a)]:=by
    rw[←haV];simp[upX,List.getD_eq_getElem?_getD,hk']
   rw[hxs]
   simp only[haE]
   refine⟨_,_,c5,qja qpU (qpP m l _ _ n _ _ (.list (qab a)) _ ⟨rfl,rfl,rfl⟩),?_⟩
   refine qcW c6 ?_
   refine qpQ m l _ _ n a (by omega) (by omega) _ _ _ (fun hne env=>?_) (fun he=>?_)
   ·exact .inl ⟨rfl,rfl,hne⟩
   ·exact .inr ⟨by simp[IExit.x],rfl,he,rfl⟩
  ·intro hC
   show XRun _ _ _ _ _ _ _
   have hno:n.vec∉upV l n.st n.par:=fun hm'=>by
    obtain⟨k,hk,he⟩:=List.getElem_of_mem hm'
    exact hC k (by simpa [upX,upV] using hk) (by simp[List.getD_eq_getElem?_getD,hk,he])
   rw[if_neg hno] at hR
   refine qcW c7 ?_
   subst hvn
   refine qpR m hm at_ _ n hv hvl hr l ht hat _ _ _ _ ?_
   rw[hR]
   exact⟨.inl rfl,rfl,rfl⟩
  ·rintro k e H' hk hC hne ⟨rfl,he,rfl⟩
   have hk':k<(upV l n.st n.par).length:=by simpa [upX,upV] using hk
   have hin:n.vec∈upV l n.st n.par:=by rw[←he];simp[List.getD_eq_getElem?_getD,hk']
   rw[if_pos hin] at hR
   subst hR
   exact⟨.inl rfl,rfl,rfl⟩
 have hz:qak [700,702] (gwL m R.2 (at_+1:Nat) n R.1++zR R.1)=[(700,sG R.2),(702,sGr R.2 (at_+1:Nat))]:=by rw[zR];split<;>rfl
 rw[←hz]
 refine qc7 [700,702] key rfl rfl ?_
 rw[zR]
 split<;>simp[qak,inL,Slot.cl,T.cl,clL,qaW]
end
section
open Go.RowKit
set_option maxHeartbeats 2000000
attribute [local simp] qaW qae qaV
def qa0 (l:List Nn):List T:=l.map encN
theorem qa7 (l:List Nn):(qa0 l).length=l.length:=by simp[qa0]
theorem qc1 (l:List Nn)(i:Nat)(h:i<l.length):(qa0 l).getD (i:Int).toNat .undef=encN (l.getD i default):=by
 simp[qa0,List.getD_eq_getElem?_getD,h]
@[simp] theorem qpw (D:Nat→Bool)(n:Nn):(encN n).cl D=true:=by simp[encN,nnC,T.cl,clL,qae]
@[simp] theorem qbb (D:Nat→Bool)(l:List Nn):clL D (qa0 l)=true:=by
 induction l with
 | nil=>rfl
 | cons x l ih=>simp only[qa0,List.map_cons,clL,qpw,Bool.true_and];exact ih
def grC (l:List Nn)(next:Int):List T:=[.list (qa0 l),.int .i64 next]
def qbm (l:List Nn)(next:Int):T:=.agg (grC l next)
theorem qjI (v:List Int)(h:v≠[])(hl:v.length≤1000000):TP Tryz.prog 33 [.list (qab v)] (.list (qab v)):=by
 cases v with
 | nil=>exact absurd rfl h
 | cons x l=>exact qhW x l hl
abbrev owE (l:List Nn)(n:Nat)(i:Int):List (Nat×T):=[(1,.ref 0 2 0),(2,.ref 1 2 0),(3,.sl 103 (n*4) 4 0 n),(11,.list (qa0 l)),(12,.int .i64 (qa0 l).length),(13,.int .i64 i)]
abbrev owH (l:List Nn)(next:Int)(done:List Nn):List (Nat×Slot):=[(0,.live ⟨37,grC l next⟩),(1,.live ⟨37,[.nil,.int .i64 0]⟩),(103,sG done)]
set_option maxHeartbeats 4000000 in
theorem own_l (l:List Nn)(next:Int)(hl:l.length≤100000)(hv:∀j,j<l.length→(l.getD j default).vec≠[]∧(l.getD j default).vec.length≤1000000)(Q:IExit→(Nat→T)→Heap→Prop)(hQ:∀j:Int,Q (.exit 0) (ofL (owE l l.length j++[(14,.bool false)])) (hpL (owH l next l))) :
 ∀(k i:Nat) (done:List Nn),i+k=l.length→done=l.take i→WL Tryz.prog 30 qjx (ofL (owE l i i)) (hpL (owH l next done)) Q:=by
 simp only[owE,owH,grC,List.cons_append,List.nil_append] at hQ ⊢
 intro k
 induction k with
 | zero=>
  intro i done hk hdn
  have hd:decide ((i:Int)<((qa0 l).length:Int))=false:=decide_eq_false (by rw[qa7];omega)
  have e:done=l:=by rw[hdn];exact List.take_of_length_le (by omega)
  have ei:i=l.length:=by omega
  subst e
  subst ei
  have fX:=@hd
  refine qaa qjx.eq_1 ?_
  refine wR0 300 [1,2,3,11,12,13,14] fX ?_
  refine wF @hd ?_
  refine wX ?_
  refine wN ?_
  exact hQ _
 | succ k ih=>
  intro i done hk hdn
  have hil:i<l.length:=by omega
  have hlt:(i:Int)<((qa0 l).length:Int):=by rw[qa7];omega
  have hd:decide ((i:Int)<((qa0 l).length:Int))=true:=decide_eq_true hlt
  have hw:IntKind.wrap .i64 ((i:Int)+1)=((i+1:Nat):Int):=by rw[wrap64 (by omega) (by omega)];rfl
  have hg:=qc1 l i hil
  have hdl:done.length=i:=by rw[hdn,List.length_take];omega
  have hlen:=qbU done
  rw[hdl] at hlen
  have hQ':=ih (i+1) (done++[l.getD i default]) (by omega) (by rw[hdn,List.take_add_one,List.getElem?_eq_getElem hil];simp[List.getD_eq_getElem?_getD,hil])
  have hvi:=hv i hil
  generalize l.getD i default=n at*
  have hcl:=qjI n.vec hvi.1 hvi.2
  have hap:=qhy done n
  simp only[encN,nnC] at hg hap
  have fX:=(cJ6 @hd @hw @hg @hap @qaK @hlen)
  refine qaa qjx.eq_1 ?_
  refine W_gc ?_
  refine wR0 300 [1,2,3,11,12,13,14] fX ?_
  refine wT @hd ?_
  refine wR0 400 [1,2,3,5,11,12,13] fX ?_
  refine wRn 500 [1,2,3,5,11,12,13] fX ?_
  refine rC fX ?_
  refine⟨_,hcl,rE fX ?_⟩
  refine wR0 600 [1,2,3,11,12,13] fX ?_
  refine wR0 700 [1,2,3,11,12,13] fX ?_
  refine wN ?_
  refine qaT [0,1,103] (by simp[inL]) (by simp[inL,T.cl]) (by simp[qak,inL,Slot.cl,T.cl,clL,qaW]) ?_
  simpa [qak,inL,Nat.add_mul] using hQ'
theorem qms (l:List Nn)(next:Int)(hl:l.length≤100000)(hv:∀j,j<l.length→(l.getD j default).vec≠[]∧(l.getD j default).vec.length≤1000000):TC Tryz.prog 30 [qbm l next] (hpL []) (.agg (grT 103 l next)) (hpL [(103,sG l)]):=by
 have hL:=fun Q h=>own_l l next hl hv Q h l.length 0 [] (by omega) rfl
 have hsz:=qa7 l
 have key:TC Tryz.prog 30 [qbm l next] (hpL []) (.agg (grT 103 l next)) (hpL [(0,.live ⟨37,grC l next⟩),(1,.live ⟨37,grT 103 l next⟩),(103,sG l)]):=by
  simp only[owE,owH,grC,grT,List.cons_append,List.nil_append] at hL ⊢
  refine qd9 fn30 (by simp) ?_
  unfold i30
  simp only[argL,qbm,grC]
  refine wR0 0 [1,2] cJ0 ?_
  refine wR0 100 [1,2,3] cJ0 ?_
  refine wR0 200 [1,2,3,11,12,13] cJ0 ?_
  refine wL ?_
  refine hL _ ?_
  ·intro j
   refine wN ?_
   refine wR0 800 [2] cJ0 ?_
   refine wE ?_
   refine wN ?_
   first | exact⟨by simp,rfl,rfl⟩ | exact⟨by simp,rfl,trivial⟩
 exact qc7 [103] key rfl rfl (by simp[qak,inL,Slot.cl,qaW])
theorem qo8 (l:List Nn)(next:Int)(hl:l.length≤100000)(hv:∀j,j<l.length→(l.getD j default).vec≠[]∧(l.getD j default).vec.length≤1000000):TC Tryz.prog 30 [qbm l next] (hpL []) (.agg (grT 700 l next)) (hpL [(700,sG l)]):=by
 have q1:∀(σ:Nat→Nat),renL σ (qb6 l)=qb6 l:=fun σ=>qbe _ (qaW _ l)
 have q2:∀(σ:Nat→Nat),renL σ (qa0 l)=qa0 l:=fun σ=>qbe _ (qbb _ l)
 refine qhe [(103,700)] (qms l next hl hv) ?_ rfl ?_ ?_
 ·simp[qbm,grC,renL,T.ren,q2]
 ·simp[grT,renL,T.ren,swps,swp]
 ·simp[Slot.ren,swps,swp,q1]
theorem qhp (l:List Nn):qbL 4 (qa0 l):=fun x hx=>by
 obtain⟨n,_,rfl⟩:=List.mem_map.1 hx;rfl
end
section
open Go.RowKit
set_option maxHeartbeats 2000000
attribute [local simp] qaW qae qaV
theorem qek:∀l:List Nn,flat (qa0 l)=qb6 l
 | []=>rfl
 | x::l=>by
  have:=qek l
  simp only[qa0,List.map_cons] at this ⊢
  simp only[qb6,List.flatMap_cons] at this ⊢
  rw[←this];rfl
theorem qhF {H:Heap}{id:Nat}(l:List Nn)(next:Int)(hb:H id=sG l):Frz H (.agg (grT id l next)) (qbm l next):=by
 have hlen:=qbU l
 have h0:Frz H (.sl id (l.length*4) 4 0 l.length) (.list (qa0 l)):=by
  refine .sl hb hlen (by simp[esz]) (qa7 l) (qhp l) (by rw[qek];exact qei l) fun k hk=>?_
  rw[qek,Nat.zero_add]
  exact .same (qaP (qaW _ l) k)
 refine .agg rfl (fun c hc=>?_) fun i hi=>?_
 ·simp only[grC,List.mem_cons,List.not_mem_nil,or_false] at hc
  rcases hc with rfl | rfl<;>rfl
 ·match i,hi with
  | 0,_=>exact h0
  | 1,_=>exact .same rfl
theorem qnK {H:Heap}{a b a' b':T}(h1:Frz H a a')(h2:Frz H b b'):Frz H (.tup [a,b]) (.tup [a',b']):=.tup rfl fun i hi=>by
 match i,hi with
 | 0,_=>exact h1
 | 1,_=>exact h2
theorem qde {H:Heap}{a b c a' b' c':T}(h1:Frz H a a')(h2:Frz H b b')(h3:Frz H c c'):Frz H (.tup [a,b,c]) (.tup [a',b',c']):=.tup rfl fun i hi=>by
 match i,hi with
 | 0,_=>exact h1
 | 1,_=>exact h2
 | 2,_=>exact h3
def qd1 (s:Int)(v:List Int):Nn:=⟨s,v,-1,-1⟩
theorem qmy (s:Int):encV (natV s)=.agg [.int .i64 s,.list []]:=rfl
theorem qkc (m:Md)(hm:m.fit)(hc:qbs m=0)(s:Int)(v:List Int)(hs:m.start=cfV s v)(hl:v.length≤1000000):TP Tryz.prog 10 [qaA m] (.tup [qbm [qd1 s v] 0,.int .i64 0]):=by
 have hct:=qhn m hm
 rw[hc] at hct
 have hn:=qi2 s v hl
 rw[qgs] at hn
 have hsn:m.start.n=0:=by rw[hs];rfl
 have hsk:m.start.kids=natV s::v.map natV:=by rw[hs];rfl
 have hk:qaj (natV s::v.map natV)=encV (natV s)::qaj (v.map natV):=rfl
 simp only[qaA,mdC,hsn,hsk,hk,qmy] at hct hn ⊢
 have hg0:(T.agg [.int .i64 s,.list []]::qaj (v.map natV)).getD (Int.toNat 0) .undef=.agg [.int .i64 s,.list []]:=rfl
 have fX:=(cJ2 @qaK @hg0)
 refine qai fn10 (by simp) ?_
 unfold i10
 simp only[argL]
 refine wR0 0 [1,2] fX ?_
 refine wRn 100 [1,2,4] fX ?_
 refine rC fX ?_
 refine⟨_,hct,rE fX ?_⟩
 refine wR0 200 [1,2,4,8] fX ?_
 refine wF fX ?_
 refine wRn 400 [2,3] fX ?_
 refine rC fX ?_
 refine⟨_,hn,rE fX ?_⟩
 refine wP ?_
 exact qnK (qhF [qd1 s v] 0 rfl) (.same rfl)
theorem qlG (l:List Nn)(next:Int):TP Tryz.prog 12 [qbm l next] (.bool (decide (next≥l.length))):=by
 have hl:=qa7 l
 have fX:=@hl
 refine qai fn12 (by simp) ?_
 unfold i12
 simp only[argL,qbm,grC]
 refine wR0 0 [1] fX ?_
 refine wR0 100 [2] fX ?_
 refine wP ?_
 exact qad rfl
theorem qnP (m:Md)(hm:m.rules.length≤1000000)(at_ N:Nat)(l:List Nn)(ht:TreeOk N l)(hN:0<N)(hvl:N≤1000000)(hat:at_<l.length)(hr:∀r∈m.rules,RoomR r (l.getD at_ default).vec) :
 TC Tryz.prog 54 [qaA m,.ref 602 2 0] (hpL [(700,sG l),(602,sGr l at_)]) (.int .i64 (qbJ m l at_).1) (hpL [(700,sG (qbJ m l at_).2),(602,sGr (qbJ m l at_).2 (at_+1:Nat))]):=by
 have q1:∀(σ:Nat→Nat) (l:List Nn),renL σ (qb6 l)=qb6 l:=fun σ l=>qbe _ (qaW _ l)
 have q2:∀(σ:Nat→Nat),(qaA m).ren σ=qaA m:=fun σ=>T.ren_fro _ (qnB _ m)
 refine qhe [(702,602)] (qpS m hm at_ N l ht hN hvl hat hr) ?_ ?_ ?_ ?_
 ·simp[renL,T.ren,q2,swps,swp]
 ·simp[Slot.ren,renL,T.ren,swps,swp,q1]
 ·simp[T.ren]
 ·simp[Slot.ren,renL,T.ren,swps,swp,q1]
def qm8 (m:Md)(l:List Nn)(k:Nat):List Nn×Nat×Bool×Int:=
 if l.length≤k then (l,k,false,0) else if (qbJ m l k).1=0 then ((qbJ m l k).2,k+1,true,0) else (l,k,false,(qbJ m l k).1)
def stepT (x:List Nn×Nat×Bool×Int):T:=.tup [qbm x.1 x.2.1,.bool x.2.2.1,.int .i64 x.2.2.2]
set_option maxHeartbeats 4000000 in
theorem qqE (m:Md)(hm:m.fit)(hc:qbs m=0)(k N:Nat)(l:List Nn)(ht:TreeOk N l)(hN:0<N)(hvl:N≤1000000)(hr:k<l.length→∀r∈m.rules,RoomR r (l.getD k default).vec):TP Tryz.prog 32 [qaA m,qbm l k] (stepT (qm8 m l k)):=by
 have hct:=qhn m hm
 rw[hc] at hct
 have hdn:=qlG l k
 have hll:=ht.len
 have hvv:∀j,j<l.length→(l.getD j default).vec≠[]∧(l.getD j default).vec.length≤1000000:=fun j hj=>by
  have:=ht.vec j hj
  exact⟨by intro e;rw[e] at this;simp at this;omega,by omega⟩
 have ho:=qo8 l k (by omega) hvv
 have ho0:=qms l k (by omega) hvv
 rw[qm8]
 by_cases hk:l.length≤k
 ·rw[if_pos hk]
  have hd:decide ((k:Int)≥l.length)=true:=decide_eq_true (by omega)
  rw[hd] at hdn
  simp only[qaA,mdC,qbm,grC] at hct hdn ho ⊢
  refine qai fn32 (by simp) ?_
  unfold i32
  simp only[argL]
  refine wR0 0 [2,3,4] cJ0 ?_
  refine wRn 100 [2,3,4,7] cJ0 ?_
  refine rC cJ0 ?_
  refine⟨_,hct,rE cJ0 ?_⟩
  refine wR0 200 [2,3,4,7,13] cJ0 ?_
  refine wF cJ0 ?_
  refine wRn 400 [2,3,4,18] cJ0 ?_
  refine rC cJ0 ?_
  refine⟨_,hdn,rE cJ0 ?_⟩
  refine wT cJ0 ?_
  refine wRn 500 [4,5,6] cJ0 ?_
  refine rU [] [(700,sG l)] cJ0 ?_
  refine⟨_,ho,rE cJ0 ?_⟩
  refine wP ?_
  exact qde (qhF l k rfl) (.same rfl) (.same rfl)
 ·rw[if_neg hk]
  have hd:decide ((k:Int)≥l.length)=false:=decide_eq_false (by omega)
  rw[hd] at hdn
  have hg:=qnP m (by have:=hm.rules;omega) k N l ht hN hvl (by omega) (hr (by omega))
  by_cases h0:(qbJ m l k).1=0
  ·rw[if_pos h0]
   rw[h0] at hg
   generalize qbJ m l k=R at*
   simp only[qaA,mdC,qbm,grC] at hct hdn ho hg ⊢
   refine qai fn32 (by simp) ?_
   unfold i32
   simp only[argL]
   refine wR0 0 [2,3,4] cJ0 ?_
   refine wRn 100 [2,3,4,7] cJ0 ?_
   refine rC cJ0 ?_
   refine⟨_,hct,rE cJ0 ?_⟩
   refine wR0 200 [2,3,4,7,13] cJ0 ?_
   refine wF cJ0 ?_
   refine wRn 400 [2,3,4,18] cJ0 ?_
   refine rC cJ0 ?_
   refine⟨_,hdn,rE cJ0 ?_⟩
   refine wF cJ0 ?_
   refine wRn 600 [2,3,4,8] cJ0 ?_
   refine rU [] [(700,sG l)] cJ0 ?_
   refine⟨_,ho,rE cJ0 ?_⟩
   refine wRn 700 [3,4,8,9] cJ0 ?_
   refine rU [(700,sG l),(602,sGr l k)] [(700,sG R.2),(602,sGr R.2 (k+1:Nat))] cJ0 ?_
   refine⟨_,TC.full2 hg (by decide),rE cJ0 ?_⟩
   refine wR0 800 [3,4,8,9,26] cJ0 ?_
   refine wF cJ0 ?_
   refine wR0 1000 [4,5,6] cJ0 ?_
   refine wP ?_
   exact qde (qhF R.2 (k+1:Nat) rfl) (.same rfl) (.same rfl)
  ·rw[if_neg h0]
   generalize qbJ m l k=R at*
   have hb:(R.1 != 0)=true:=by simp[h0]
   simp only[qaA,mdC,qbm,grC] at hct hdn ho ho0 hg ⊢
   refine qai fn32 (by simp) ?_
   unfold i32
   simp only[argL]
   refine wR0 0 [2,3,4] cJ0 ?_
   refine wRn 100 [2,3,4,7] cJ0 ?_
   refine rC cJ0 ?_
   refine⟨_,hct,rE cJ0 ?_⟩
   refine wR0 200 [2,3,4,7,13] cJ0 ?_
   refine wF cJ0 ?_
   refine wRn 400 [2,3,4,18] cJ0 ?_
   refine rC cJ0 ?_
   refine⟨_,hdn,rE cJ0 ?_⟩
   refine wF cJ0 ?_
   refine wRn 600 [2,3,4,8] cJ0 ?_
   refine rU [] [(700,sG l)] cJ0 ?_
   refine⟨_,ho,rE cJ0 ?_⟩
   refine wRn 700 [3,4,8,9] cJ0 ?_
   refine rU [(700,sG l),(602,sGr l k)] [(700,sG R.2),(602,sGr R.2 (k+1:Nat))] cJ0 ?_
   refine⟨_,TC.full2 hg (by decide),rE cJ0 ?_⟩
   refine wR0 800 [3,4,8,9,26] cJ0 ?_
   refine wT @hb ?_
   refine wRn 900 [4,5,6] cJ0 ?_
   refine rU [] [(103,sG l)] cJ0 ?_
   refine⟨_,ho0,rE cJ0 ?_⟩
   refine wP ?_
   exact qde (qhF l k rfl) (.same rfl) (.same rfl)
end
end Go.Proofs.YtncpdpbpcnoeeaaGreat
