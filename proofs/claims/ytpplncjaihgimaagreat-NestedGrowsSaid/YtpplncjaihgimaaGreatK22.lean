/- Contracts of functions of the program, for all arguments that they name. -/
import Derived.Test.YtpplncjaihgimaaGreatK21c
namespace Go.Proofs.YtpplncjaihgimaaGreat
set_option linter.unusedVariables false
section
open Go.RowKit
set_option maxHeartbeats 2000000
theorem qiU {H:Heap}{D:Nat→Bool}:∀ {xs:List T},clL D xs=true→FzL H D xs xs
 | [],_=>.nil
 | x::xs,h=>by
  simp only[clL,Bool.and_eq_true] at h
  exact .cons (.same h.1) (qiU h.2)
theorem qlH {H:Heap}{D:Nat→Bool}{x y:T}{rest:List T}(h:Fz H D x y)(hr:clL D rest=true):∀ {done:List T},clL D done=true→FzL H D (done++x::rest) (done++y::rest)
 | [],_=>.cons h (qiU hr)
 | z::done,hd=>by
  simp only[clL,Bool.and_eq_true] at hd
  exact .cons (.same hd.1) (qlH h hr hd.2)
attribute [local simp] qeL qdi qae qaG
def rowR (R:Nat→Nat→Bool)(i j:Nat):List Bool:=(List.range j).map (R i)
theorem qq8 (R:Nat→Nat→Bool)(i j:Nat):rowR R i (j+1)=rowR R i j++[R i j]:=by simp[rowR,List.range_succ]
theorem qjU (R:Nat→Nat→Bool)(i j:Nat):(rowR R i j).length=j:=by simp[rowR]
def tabR (R:Nat→Nat→Bool)(i m:Nat):List (List Bool):=(List.range i).map fun a=>rowR R a m
theorem qrH (R:Nat→Nat→Bool)(i m:Nat):tabR R (i+1) m=tabR R i m++[rowR R i m]:=by simp[tabR,List.range_succ]
theorem qj4 (R:Nat→Nat→Bool)(i m:Nat):(tabR R i m).length=i:=by simp[tabR]
theorem qtB (R:Nat→Nat→Bool)(i m:Nat):∀r∈tabR R i m,r.length=m:=fun r hr=>by
 obtain⟨a,_,rfl⟩:=List.mem_map.1 hr
 exact qjU R a m
theorem qrG (R:Nat→Nat→Bool)(n m i j:Nat)(hi:i<n)(hj:j<m):eF (tabR R n m) i j=R i j:=by
 simp[eF,tabR,rowR,List.getD_eq_getElem?_getD,hi,hj]
theorem qob {L:List T}{x:T}{r:List T}(i:Nat)(h:L.length=i):List.take 1 (List.drop i (L++x::r))=[x]:=by
 rw[←h,List.drop_left];rfl
theorem qly {L:List T}{x y:T}{r:List T}(i:Nat)(h:L.length=i):List.take i (L++x::r)++[y]++List.drop (i+1) (L++x::r)=L++y::r:=by
 rw[List.take_left' h,←List.drop_drop,List.drop_left' h]
 simp
theorem replU (zs:List T):repl 1 zs=zs:=by simp[repl]
theorem qs4 (n:Nat):repl n [T.nil]=List.replicate n .nil:=qjS n _
theorem quQ (D:Nat→Bool)(n:Nat):clL D (List.replicate n T.nil)=true:=by
 induction n with
 | zero=>rfl
 | succ n ih=>simpa [List.replicate_succ,clL,T.cl] using ih
abbrev tyS (k s:Int)(rs:List Int)(p:Ty):Slot:=.live ⟨50,[.int .i64 k,.int .i64 s,.list (qab rs),.list (qak [p])]⟩
abbrev vS (n:Int)(xs:List V):Slot:=.live ⟨25,[.int .i64 n,.list (qac xs)]⟩
abbrev tbS (cs:List T):Slot:=.live ⟨134,cs⟩
abbrev BelT (p:Ty)(xs ys:List V)(R:Nat→Nat→Bool)(i j:Nat):Prop:=TP Tryz.prog 58 [qal p,encV (xs.getD i v0),encV (ys.getD j v0)] (.bool (R i j))
theorem qr8 (k s na nb:Int)(rs:List Int)(p:Ty)(xs ys:List V)(n m:Nat)(hx:xs.length=n)(hy:ys.length=m)(hn:n≤100)(hm:m≤100)(R:Nat→Nat→Bool)(i:Nat)(hi:i<n)(hc:∀j,j<m→BelT p xs ys R i j)(done rest:List T)(hdl:done.length=i)(hrl:i+1+rest.length=n)(hdc:∀D,clL D done=true)(hrc:∀D,clL D rest=true)(Q:IExit→(Nat→T)→Heap→Prop):∀(g j:Nat),(j+1)+g=m→
 (∀c:Int,Q (.exit 7) (ofL [(3,.ref 0 4 0),(4,.ref 1 2 0),(5,.ref 2 2 0),(10,.sl 2503 n 0 0 n),(11,.int .i64 i),(12,.int .i64 c),(126,.bool false)]) (hpL [(0,tyS k s rs p),(1,vS na xs),(2,vS nb ys),(2503,tbS (done++.sl 3022 m 0 0 m::rest)),(3022,bS (rowR R i m))]))→
 WL Tryz.prog 166 qhC (ofL [(3,.ref 0 4 0),(4,.ref 1 2 0),(5,.ref 2 2 0),(10,.sl 2503 n 0 0 n),(11,.int .i64 i),(12,.int .i64 (j+1:Nat))]) (hpL [(0,tyS k s rs p),(1,vS na xs),(2,vS nb ys),(2503,tbS (done++.sl 3022 (j+1) 0 0 (j+1)::rest)),(3022,bS (rowR R i (j+1)))]) Q:=by
 rcases p with⟨pk,p2,p3,p4⟩
 have hxl:(qac xs).length=n:=by rw[qag];exact hx
 have hyl:(qac ys).length=m:=by rw[qag];exact hy
 have htc:clL (fun _=>false) (qak [Ty.mk pk p2 p3 p4])=true:=qaG _ _
 intro g
 induction g with
 | zero=>
  intro j hj hQ
  have e:j+1=m:=by omega
  rw[e]
  have hd:decide ((m:Int)<(m:Int))=false:=decide_eq_false (by omega)
  have fX:=(cJ2 @hyl @hd)
  refine qaa qhC.eq_1 ?_
  refine wR0 2900 [3,4,5,10,11,12,126] fX ?_
  refine wF fX ?_
  refine wX ?_
  refine wN ?_
  exact hQ _
 | succ g ih=>
  intro j hj hQ
  have hd:decide (((j+1:Nat):Int)<(m:Int))=true:=decide_eq_true (by omega)
  have hw:IntKind.wrap .i64 (((j+1:Nat):Int)+1)=((j+1+1:Nat):Int):=by rw[wrap64 (by omega) (by omega)];rfl
  have hcall:=hc (j+1) (by omega)
  unfold BelT at hcall
  have g2:=qdw xs i (by omega)
  have g3:=qdw ys (j+1) (by omega)
  have g1:(qak [Ty.mk pk p2 p3 p4]).getD (0:Int).toNat .undef=qal (.mk pk p2 p3 p4):=rfl
  rcases hx1:xs.getD i v0 with⟨x1,x2⟩
  rcases hy1:ys.getD (j+1) v0 with⟨y1,y2⟩
  rw[hx1,hy1] at hcall
  rw[hx1] at g2
  rw[hy1] at g3
  simp only[qal,encV] at g1 g2 g3 hcall
  have hii:(i:Int)<(n:Int):=by omega
  have hjj:((j+1:Nat):Int)<(m:Int):=by omega
  have hit:((i:Nat):Int).toNat*1=i:=by simp
  have htl:(done++T.sl 3022 (j+1) 0 0 (j+1)::rest).length=n:=by simp;omega
  have hrd:=qob (x:=T.sl 3022 (j+1) 0 0 (j+1)) (r:=rest) i hdl
  have hwr:=qly (x:=T.sl 3022 (j+1) 0 0 (j+1)) (y:=T.sl 3022 (j+1+1) 0 0 (j+1+1)) (r:=rest) i hdl
  have hbl:(qbG (rowR R i (j+1))).length=j+1:=by rw[qcm,qjU]
  have hba:qbG (rowR R i (j+1))++[.bool (R i (j+1))]=qbG (rowR R i (j+1+1)):=by rw[qq8 R i (j+1)];simp[qbG]
  have hl1:(0:Int)<(([Ty.mk pk p2 p3 p4].length:Nat):Int):=by simp
  have hl2:(qak [Ty.mk pk p2 p3 p4]).length=1:=rfl
  have hQ':=ih (j+1) (by omega) hQ
  have fX:=(cJ8 @hyl @hxl @hd @hw @g1 @g2 @g3 (cJ8 @hit @htl @hrd @hwr @hbl @hba @replU @hl2))
  refine qaa qhC.eq_1 ?_
  refine W_gc ?_
  refine wR0 2900 [3,4,5,10,11,12,126] fX ?_
  refine wT fX ?_
  refine wRn 3000 [3,4,5,10,11,12] fX ?_
  refine rC fX ?_
  refine⟨_,hcall,rE fX ?_⟩
  refine wR0 3100 [3,4,5,10,11,12] fX ?_
  refine wN ?_
  refine qaC [0,1,2,2503,3022] (by simp[inL]) (by simp[inL,T.cl]) (by simp[qam,inL,Slot.cl,T.cl,clL,qao,hdc,hrc,qai]) ?_
  exact hQ'
theorem qpF (k s na nb:Int)(rs:List Int)(p:Ty)(xs ys:List V)(n m:Nat)(hx:xs.length=n)(hy:ys.length=m)(hn:n≤100)(hm:m≤100)(hm1:1≤m)(R:Nat→Nat→Bool)(i:Nat)(hi:i<n)(hc:∀j,j<m→BelT p xs ys R i j)(done rest:List T)(hdl:done.length=i)(hrl:i+1+rest.length=n)(hdc:∀D,clL D done=true)(hrc:∀D,clL D rest=true)(Q:IExit→(Nat→T)→Heap→Prop)
 (hQ:∀c:Int,Q (.exit 7) (ofL [(3,.ref 0 4 0),(4,.ref 1 2 0),(5,.ref 2 2 0),(10,.sl 2503 n 0 0 n),(11,.int .i64 i),(12,.int .i64 c),(126,.bool false)]) (hpL [(0,tyS k s rs p),(1,vS na xs),(2,vS nb ys),(2503,tbS (done++.sl 3022 m 0 0 m::rest)),(3022,bS (rowR R i m))])) :
 WL Tryz.prog 166 qhC (ofL [(3,.ref 0 4 0),(4,.ref 1 2 0),(5,.ref 2 2 0),(10,.sl 2503 n 0 0 n),(11,.int .i64 i),(12,.int .i64 0)]) (hpL [(0,tyS k s rs p),(1,vS na xs),(2,vS nb ys),(2503,tbS (done++.nil::rest))]) Q:=by
 have hQ':=qr8 k s na nb rs p xs ys n m hx hy hn hm R i hi hc done rest hdl hrl hdc hrc Q (m - 1) 0 (by omega) hQ
 rcases p with⟨pk,p2,p3,p4⟩
 have hxl:(qac xs).length=n:=by rw[qag];exact hx
 have hyl:(qac ys).length=m:=by rw[qag];exact hy
 have hd:decide ((0:Int)<(m:Int))=true:=decide_eq_true (by omega)
 have hw:IntKind.wrap .i64 ((0:Int)+1)=((0+1:Nat):Int):=rfl
 have hcall:=hc 0 (by omega)
 unfold BelT at hcall
 have g2:=qdw xs i (by omega)
 have g3:(qac ys).getD (0:Int).toNat .undef=encV (ys.getD 0 v0):=qdw ys 0 (by omega)
 have g1:(qak [Ty.mk pk p2 p3 p4]).getD (0:Int).toNat .undef=qal (.mk pk p2 p3 p4):=rfl
 rcases hx1:xs.getD i v0 with⟨x1,x2⟩
 rcases hy1:ys.getD 0 v0 with⟨y1,y2⟩
 rw[hx1,hy1] at hcall
 rw[hx1] at g2
 rw[hy1] at g3
 simp only[qal,encV] at g1 g2 g3 hcall
 have hii:(i:Int)<(n:Int):=by omega
 have hjj:(0:Int)<(m:Int):=by omega
 have hit:((i:Nat):Int).toNat*1=i:=by simp
 have htl:(done++T.nil::rest).length=n:=by simp;omega
 have hrd:=qob (x:=T.nil) (r:=rest) i hdl
 have hwr:=qly (x:=T.nil) (y:=T.sl 3022 1 0 0 1) (r:=rest) i hdl
 have hba:[T.bool (R i 0)]=qbG (rowR R i (0+1)):=rfl
 have hl2:(qak [Ty.mk pk p2 p3 p4]).length=1:=rfl
 have fX:=(cJ8 @hyl @hxl @hd @hw @g1 @g2 @g3 (cJ6 @hit @htl @hrd @hwr @replU @hl2))
 refine qaa qhC.eq_1 ?_
 refine W_gc ?_
 refine wR0 2900 [3,4,5,10,11,12,126] fX ?_
 refine wT fX ?_
 refine wRn 3000 [3,4,5,10,11,12] fX ?_
 refine rC fX ?_
 refine⟨_,hcall,rE fX ?_⟩
 refine wR0 3100 [3,4,5,10,11,12] fX ?_
 refine wN ?_
 refine qaC [0,1,2,2503,3022] (by simp[inL]) (by simp[inL,T.cl]) (by simp[qam,inL,Slot.cl,T.cl,clL,qao,hdc,hrc,qai]) ?_
 exact hQ'
theorem qgk {cs:List T}(h:(cs.all T.one)=true):Ones cs:=fun c hc=>List.all_eq_true.1 h c hc
theorem qiv (l:List Bool):flat (qbG l)=qbG l:=by
 induction l with
 | nil=>rfl
 | cons b l ih=>simp only[qbG,List.map_cons,qbe,T.cells] at ih ⊢;rw[ih];rfl
theorem qiu (t:List (List Bool)):flat (qbn t)=qbn t:=by
 induction t with
 | nil=>rfl
 | cons b l ih=>simp only[qbn,List.map_cons,qbe,T.cells] at ih ⊢;rw[ih];rfl
theorem qsp {H:Heap}{D:Nat→Bool}{id ty n:Nat}(l:List Bool)(hb:H id=.live ⟨ty,qbG l⟩)(hd:D id=false)(hn:l.length=n):Fz H D (.sl id n 0 0 n) (.list (qbG l)):=by
 refine .slL hb hd (by rw[qcm];exact hn) (by rw[qcm];exact hn) (by simp[esz]) ?_ ?_ ?_
 ·simp[qbG,T.cells,esz]
 ·rw[qiv];simp[qbG,T.one]
 ·rw[qiv];exact qiU (qeL _ _)
theorem qoa (t:List (List Bool))(x:T)(g:Nat)(hx:x.one=true):((qbn t++x::List.replicate g T.nil).all T.one)=true:=by
 rw[List.all_append,List.all_cons,hx,Bool.true_and,Bool.and_eq_true]
 exact⟨by simp[qbn,T.one],by simp[T.one]⟩
theorem qox (t:List (List Bool))(r:List Bool)(L:List T):qbn (t++[r])++L=qbn t++.list (qbG r)::L:=by simp[qbn]
theorem qr7 (k s na nb:Int)(rs:List Int)(p:Ty)(xs ys:List V)(n m:Nat)(hx:xs.length=n)(hy:ys.length=m)(hn:n≤100)(hm:m≤100)(R:Nat→Nat→Bool)(hc:∀i j,i<n→j<m→BelT p xs ys R i j)(Q:IExit→(Nat→T)→Heap→Prop):∀(g i:Nat),i+g=n→
 (∀c:Int,Q (.exit 5) (ofL [(3,.ref 0 4 0),(4,.ref 1 2 0),(5,.ref 2 2 0),(10,.sl 2503 n 0 0 n),(11,.int .i64 c),(119,.bool false)]) (hpL [(0,tyS k s rs p),(1,vS na xs),(2,vS nb ys),(2503,tbS (qbn (tabR R n m)))]))→
 WL Tryz.prog 166 qkz (ofL [(3,.ref 0 4 0),(4,.ref 1 2 0),(5,.ref 2 2 0),(10,.sl 2503 n 0 0 n),(11,.int .i64 i)]) (hpL [(0,tyS k s rs p),(1,vS na xs),(2,vS nb ys),(2503,tbS (qbn (tabR R i m)++List.replicate g .nil))]) Q:=by
 have hxl:(qac xs).length=n:=by rw[qag];exact hx
 have hyl:(qac ys).length=m:=by rw[qag];exact hy
 intro g
 induction g with
 | zero=>
  intro i hi hQ
  have e:i=n:=by omega
  subst e
  have hd:decide ((i:Int)<(i:Int))=false:=decide_eq_false (by omega)
  rw[List.replicate_zero,List.append_nil]
  have fX:=(cJ2 @hxl @hd)
  refine qaa qkz.eq_1 ?_
  refine wR0 2700 [3,4,5,10,11,119] fX ?_
  refine wF fX ?_
  refine wX ?_
  refine wN ?_
  exact hQ _
 | succ g ih=>
  intro i hi hQ
  have hd:decide ((i:Int)<(n:Int))=true:=decide_eq_true (by omega)
  have hw:IntKind.wrap .i64 ((i:Int)+1)=((i+1:Nat):Int):=by rw[wrap64 (by omega) (by omega)];rfl
  have hdl:(qbn (tabR R i m)).length=i:=by rw[qcA,qj4]
  have hrl:i+1+(List.replicate g T.nil).length=n:=by rw[List.length_replicate];omega
  have hnc:∀D,clL D (List.replicate g T.nil)=true:=fun D=>quQ D g
  have hQ':=ih (i+1) (by omega) hQ
  rw[qrH,qox] at hQ'
  rw[List.replicate_succ]
  by_cases hm0:m=0
  ·subst hm0
   have hd0:decide ((0:Int)<((0:Nat):Int))=false:=rfl
   have hr0:rowR R i 0=[]:=rfl
   rw[hr0] at hQ'
   have fX:=(cJ4 @hxl @hyl @hd @hw)
   refine qaa qkz.eq_1 ?_
   refine W_gc ?_
   refine wR0 2700 [3,4,5,10,11,119] fX ?_
   refine wT fX ?_
   refine wR0 2800 [3,4,5,10,11,12] fX ?_
   refine wL ?_
   refine qaa qhC.eq_1 ?_
   refine wR0 2900 [3,4,5,10,11,12,126] fX ?_
   refine wF @hd0 ?_
   refine wX ?_
   refine wN ?_
   refine qbW (l':=[(3,.ref 0 4 0),(4,.ref 1 2 0),(5,.ref 2 2 0),(10,.sl 2503 n 0 0 n),(11,.int .i64 i),(12,.undef),(126,.undef)]) (hl':=[(0,tyS k s rs p),(1,vS na xs),(2,vS nb ys),(2503,tbS (qbn (tabR R i 0)++.list (qbG [])::List.replicate g .nil))]) [0,1,2,2503] (.cons (.same rfl) (.cons (.same rfl) (.cons (.same rfl) (.cons (.same rfl) (.cons (.same rfl) (.drop (.drop .nil))))))) (.keep rfl (.liveS (by simp[clL,T.cl]) (qgk rfl)) (.keep rfl (.liveS (by simp[clL,T.cl,qai]) (qgk rfl)) (.keep rfl (.liveS (by simp[clL,T.cl,qai]) (qgk rfl)) (.keep rfl (.liveL (qlH .nil (hnc _) (qdi _ _)) (qoa _ _ _ rfl)) .nil)))) ?_
   refine wR0 3200 [3,4,5,10,11] fX ?_
   refine wN ?_
   refine qaC [0,1,2,2503] (by simp[inL]) (by simp[inL,T.cl]) (by simp[qam,inL,Slot.cl,T.cl,clL,qao,hnc,qai]) ?_
   exact hQ'
  ·have fX:=(cJ4 @hxl @hyl @hd @hw)
   refine qaa qkz.eq_1 ?_
   refine W_gc ?_
   refine wR0 2700 [3,4,5,10,11,119] fX ?_
   refine wT fX ?_
   refine wR0 2800 [3,4,5,10,11,12] fX ?_
   refine wL ?_
   refine qpF k s na nb rs p xs ys n m hx hy hn hm (by omega) R i (by omega) (fun j hj=>hc i j (by omega) hj) (qbn (tabR R i m)) (List.replicate g .nil) hdl hrl (fun D=>qdi D _) hnc _ ?_
   ·intro c
    refine wN ?_
    refine qbW (l':=[(3,.ref 0 4 0),(4,.ref 1 2 0),(5,.ref 2 2 0),(10,.sl 2503 n 0 0 n),(11,.int .i64 i),(12,.undef),(126,.undef)]) (hl':=[(0,tyS k s rs p),(1,vS na xs),(2,vS nb ys),(2503,tbS (qbn (tabR R i m)++.list (qbG (rowR R i m))::List.replicate g .nil)),(3022,.dead)]) [0,1,2,2503] (.cons (.same rfl) (.cons (.same rfl) (.cons (.same rfl) (.cons (.same rfl) (.cons (.same rfl) (.drop (.drop .nil))))))) (.keep rfl (.liveS (by simp[clL,T.cl]) (qgk rfl)) (.keep rfl (.liveS (by simp[clL,T.cl,qai]) (qgk rfl)) (.keep rfl (.liveS (by simp[clL,T.cl,qai]) (qgk rfl)) (.keep rfl (.liveL (qlH (qsp (rowR R i m) rfl rfl (qjU R i m)) (hnc _) (qdi _ _)) (qoa _ _ _ rfl)) (.dead rfl (fun h=>by cases h) .nil))))) ?_
    refine wR0 3200 [3,4,5,10,11] fX ?_
    refine wN ?_
    refine qaC [0,1,2,2503] (by simp[inL]) (by simp[inL,T.cl]) (by simp[qam,inL,Slot.cl,T.cl,clL,qao,hnc,qai]) ?_
    exact hQ'
mutual
def qh3:Ty→Prop
 | .mk k s rs ps=>(k=1∨k=2∨k=3∨k=5∧∃p,ps=[p])∧qn1 ps
def qn1:List Ty→Prop
 | []=>True
 | p::ps=>qh3 p∧qn1 ps
end
theorem qiR:∀ {ps:List Ty},qn1 ps→∀p∈ps,qh3 p
 | [],_=>fun p h=>by cases h
 | q::ps,h=>fun p hp=>by
  rcases List.mem_cons.1 hp with rfl | hp
  ·exact h.1
  ·exact qiR h.2 p hp
theorem qjL:∀ {ps:List Ty} {vs:List V},vs.length=ps.length→qdH ps vs=true→∀j,j<ps.length→ofV (ps.getD j tyD) (vs.getD j v0)=true
 | [],vs,_,_=>fun j hj=>by simp at hj
 | p::ps,[],h,_=>by simp at h
 | p::ps,v::vs,h,h2=>fun j hj=>by
  simp only[qdH,Bool.and_eq_true] at h2
  cases j with
  | zero=>exact h2.1
  | succ j=>exact qjL (by simpa using h) h2.2 j (by simpa using hj)
theorem qcQ {α:Type}{l:List α}{d:α}{i:Nat}(h:i<l.length):l.getD i d∈l:=by
 rw[List.getD_eq_getElem?_getD,List.getElem?_eq_getElem h]
 exact List.getElem_mem _
theorem qmF:∀(t:Ty) (a b:V),qh3 t→t.fit→a.fit→b.fit→ofV t a=true→ofV t b=true→BelC t a b
 | .mk k s rs ps,.mk na xs,.mk nb ys,hs,ht,hva,hvb,ha,hb=>by
  obtain⟨hf1,hf2,hf3⟩:=Ty.fit_all ht
  rw[qh3] at hs
  obtain⟨hk,hsp⟩:=hs
  have hrec:∀q∈ps,∀a b:V,a.fit→b.fit→ofV q a=true→ofV q b=true→BelC q a b:=fun q hq a b h1 h2 h3 h4=>qmF q a b (qiR hsp _ hq) (hf3 _ hq) h1 h2 h3 h4
  have hfa:=V.fit_kids hva
  have hfb:=V.fit_kids hvb
  simp only[V.kids] at hfa hfb
  rcases hk with rfl | rfl | rfl | ⟨rfl,p,rfl⟩
  ·refine⟨decide (na≤nb),by simp[bel,V.n],?_⟩
   have b1:((1:Int)==1)=true:=rfl
   have fX:=@b1
   refine qan fn58 (by simp) ?_
   unfold i58
   simp only[argL,encV,qal]
   refine wR0 0 [3,4,5] fX ?_
   refine wR0 100 [3,4,5,16] fX ?_
   refine wR0 200 [3,4,5,16,17] fX ?_
   refine wT fX ?_
   refine wR0 300 [6] fX ?_
   refine wP ?_
   exact .same rfl
  ·refine⟨na==nb,by simp[bel,V.n],?_⟩
   have b1:((2:Int)==1)=false:=rfl
   have b2:((2:Int)==2)=true:=rfl
   have fX:=(cJ2 @b1 @b2)
   refine qan fn58 (by simp) ?_
   unfold i58
   simp only[argL,encV,qal]
   refine wR0 0 [3,4,5] fX ?_
   refine wR0 100 [3,4,5,16] fX ?_
   refine wR0 200 [3,4,5,16,17] fX ?_
   refine wF fX ?_
   refine wR0 400 [3,4,5,16,24] fX ?_
   refine wT fX ?_
   refine wR0 500 [6] fX ?_
   refine wP ?_
   exact .same rfl
  ·have b1:((3:Int)==1)=false:=rfl
   have b2:((3:Int)==2)=false:=rfl
   have b6:((3:Int)==6)=false:=rfl
   have b7:((3:Int)==7)=false:=rfl
   have b3:((3:Int)==3)=true:=rfl
   simp[ofV,V.n,V.kids] at ha hb
   obtain⟨⟨_,hal⟩,haz⟩:=ha
   obtain⟨⟨_,hbl⟩,hbz⟩:=hb
   have hal':xs.length=ps.length:=by omega
   have hbl':ys.length=ps.length:=by omega
   have hc:∀i,i<ps.length→BelC (ps.getD i tyD) (xs.getD i v0) (ys.getD i v0):=fun i hi=>by
    have hm:ps.getD i tyD∈ps:=qcQ hi
    exact hrec _ hm _ _ (hfa.2 _ (qcQ (by omega))) (hfb.2 _ (qcQ (by omega))) (qjL hal' haz i hi) (qjL hbl' hbz i hi)
   have hiff:bel (.mk 3 s rs ps) (.mk na xs) (.mk nb ys)↔∀j,j<ps.length→bel (ps.getD j tyD) (xs.getD j v0) (ys.getD j v0):=by
    rw[←qmD ps xs ys hal' hbl']
    simp[bel,V.kids]
   obtain⟨r,hr⟩:∃r:Bool,(r=true↔∀j,j<ps.length→bel (ps.getD j tyD) (xs.getD j v0) (ys.getD j v0)):=by
    classical exact⟨decide _,decide_eq_true_iff⟩
   refine⟨r,by rw[hiff];exact hr,?_⟩
   have fX:=(cJ5 @b1 @b2 @b6 @b7 @b3)
   refine qan fn58 (by simp) ?_
   unfold i58
   simp only[argL,encV,qal]
   refine wR0 0 [3,4,5] fX ?_
   refine wR0 100 [3,4,5,16] fX ?_
   refine wR0 200 [3,4,5,16,17] fX ?_
   refine wF fX ?_
   refine wR0 400 [3,4,5,16,24] fX ?_
   refine wF fX ?_
   refine wR0 600 [3,4,5,16,31] fX ?_
   refine wF fX ?_
   refine wR0 800 [3,4,5,16,38] fX ?_
   refine wF fX ?_
   refine wR0 1000 [3,4,5,16,47] fX ?_
   refine wT fX ?_
   refine wR0 1100 [3,4,5,7] fX ?_
   refine wL ?_
   refine qr6 3 s na nb rs ps xs ys (by omega) hal' hbl' hc _ ps.length 0 (by omega) ?_ ?_
   ·intro hq i
    refine wN ?_
    (have er:r=true:=hr.2 fun j hj=>hq j (Nat.zero_le _) hj)
    subst er
    refine wR0 1600 [6] fX ?_
    refine wP ?_
    exact .same rfl
   ·intro hq
    refine wN ?_
    (have er:r=false:=(by rcases r with _ | _;rfl;(obtain⟨j,_,h1,h2⟩:=hq;exact absurd (hr.1 rfl j h1) h2)));subst er;exact⟨by simp,_,rfl,.same rfl⟩
  ·have b1:((5:Int)==1)=false:=rfl
   have b2:((5:Int)==2)=false:=rfl
   have b6:((5:Int)==6)=false:=rfl
   have b7:((5:Int)==7)=false:=rfl
   have b3:((5:Int)==3)=false:=rfl
   have b4:((5:Int)==4)=false:=rfl
   simp[ofV,V.n,V.kids,qeu] at ha hb
   obtain⟨⟨_,hal⟩,hao,_⟩:=ha
   obtain⟨⟨_,hbl⟩,hbo,_⟩:=hb
   have hal':xs.length≤12:=by omega
   have hbl':ys.length≤12:=by omega
   have hm:p∈[p]:=List.mem_singleton.2 rfl
   have hcx:∀i j:Nat,i<xs.length→j<ys.length→BelC p (xs.getD i v0) (ys.getD j v0):=fun i j hi hj=>
    hrec p hm _ _ (hfa.2 _ (qcQ hi)) (hfb.2 _ (qcQ hj)) (hao _ (qcQ hi)) (hbo _ (qcQ hj))
   obtain⟨R,hR⟩:∃R:Nat→Nat→Bool,∀i j,i<xs.length→j<ys.length→(R i j=true↔bel p (xs.getD i v0) (ys.getD j v0))∧BelT p xs ys R i j:=by
    have h1:∀q:Nat×Nat,∃r:Bool,q.1<xs.length→q.2<ys.length→(r=true↔bel p (xs.getD q.1 v0) (ys.getD q.2 v0))∧TP Tryz.prog 58 [qal p,encV (xs.getD q.1 v0),encV (ys.getD q.2 v0)] (.bool r):=fun q=>by
     by_cases hq:q.1<xs.length∧q.2<ys.length
     ·obtain⟨r,e1,e2⟩:=hcx q.1 q.2 hq.1 hq.2
      exact⟨r,fun _ _=>⟨e1,e2⟩⟩
     ·exact⟨false,fun u v=>absurd ⟨u,v⟩ hq⟩
    obtain⟨f,hf⟩:=Classical.axiomOfChoice h1
    exact⟨fun i j=>f (i,j),fun i j hi hj=>hf (i,j) hi hj⟩
   obtain⟨k,hk1,hk2⟩:=quc (tabR R xs.length ys.length) xs.length ys.length (qj4 _ _ _) (qtB _ _ _) hbl' hal'
   have hki:=qqG hk1
   have hiff:bel (.mk 5 s rs [p]) (.mk na xs) (.mk nb ys)↔k=xs.length:=by
    rw[hki]
    simp only[bel,belH,V.kids]
    rw[if_neg (by omega),if_neg (by omega),if_neg (by omega)]
    constructor
    ·rintro ⟨f,q1,q2⟩
     exact⟨f,q1,fun i hi=>⟨(q2 i hi).1,by rw[qrG _ _ _ _ _ hi (q2 i hi).1];exact (hR i _ hi (q2 i hi).1).1.2 (q2 i hi).2⟩⟩
    ·rintro ⟨f,q1,q2⟩
     exact⟨f,q1,fun i hi=>⟨(q2 i hi).1,(hR i _ hi (q2 i hi).1).1.1 (by rw[←qrG R xs.length ys.length i (f i) hi (q2 i hi).1];exact (q2 i hi).2)⟩⟩
   refine⟨((k:Int)==(xs.length:Int)),by rw[hiff];simp;omega,?_⟩
   have hxl:(qac xs).length=xs.length:=qag xs
   have hrp:repl xs.length [T.nil]=List.replicate xs.length .nil:=qs4 _
   have hmt:((xs.length:Nat):Int).toNat=xs.length:=by simp
   have hnl:(List.replicate xs.length T.nil).length=xs.length:=List.length_replicate ..
   have htl:(tabR R xs.length ys.length).length=xs.length:=qj4 _ _ _
   have hfz:∀H:Heap,H 2503=tbS (qbn (tabR R xs.length ys.length))→Frz H (.sl 2503 xs.length 0 0 xs.length) (.list (qbn (tabR R xs.length ys.length))):=fun H h=>by
    refine .slL h (by rw[qcA];exact htl) (by rw[qcA];exact htl) (by simp[esz]) (by simp[qbn,T.cells,esz]) (by rw[qiu];simp[qbn,T.one]) ?_
    rw[qiu]
    exact⟨rfl,fun i hi=>.same (qbb (qdi _ _) i)⟩
   have hL2:=fun Q=>qr7 5 s na nb rs p xs ys xs.length ys.length rfl rfl (by omega) (by omega) R (fun i j hi hj=>(hR i j hi hj).2) Q xs.length 0 (by omega)
   have ht0:tabR R 0 ys.length=[]:=rfl
   rw[ht0] at hL2
   simp only[qbn,List.map_nil,List.nil_append] at hL2
   have fX:=(cJ8 @b1 @b2 @b6 @b7 @b3 @b4 @hxl (cJ3 @hrp @hmt @hnl))
   refine qan fn58 (by simp) ?_
   unfold i58
   simp only[argL,encV,qal]
   refine wR0 0 [3,4,5] fX ?_
   refine wR0 100 [3,4,5,16] fX ?_
   refine wR0 200 [3,4,5,16,17] fX ?_
   refine wF fX ?_
   refine wR0 400 [3,4,5,16,24] fX ?_
   refine wF fX ?_
   refine wR0 600 [3,4,5,16,31] fX ?_
   refine wF fX ?_
   refine wR0 800 [3,4,5,16,38] fX ?_
   refine wF fX ?_
   refine wR0 1000 [3,4,5,16,47] fX ?_
   refine wF fX ?_
   refine wR0 1700 [3,4,5,73] fX ?_
   refine wF fX ?_
   refine wR0 2500 [3,4,5,10] fX ?_
   refine wR0 2600 [3,4,5,10,11] fX ?_
   refine wL ?_
   refine hL2 _ ?_
   ·intro c
    refine wN ?_
    refine wRn 3300 [4,13,14] fX ?_
    refine rG [(2503,tbS (qbn (tabR R xs.length ys.length)))] fX ?_
    refine⟨_,_,hk2,(by (exact .cons (hfz _ rfl) .nil)),rE fX ?_⟩
    refine wR0 3400 [6] fX ?_
    refine wP ?_
    exact .same rfl
termination_by t=>SizeOf.sizeOf t
decreasing_by all_goals exact qds hq k s rs
end
end Go.Proofs.YtpplncjaihgimaaGreat
