/- Contracts of functions of the program, for all arguments that they name. -/
import Derived.Test.YtpplncjaihgimaaGreatK33
namespace Go.Proofs.YtpplncjaihgimaaGreat
set_option linter.unusedVariables false
section
open Go.RowKit
set_option maxHeartbeats 2000000
attribute [local simp] qae qhH
theorem qqi {H:Heap}{id ty n tot:Nat}(l:List Int)(z:List T)(hb:H id=.live ⟨ty,qab l++z⟩)(hn:n=l.length)(ht:tot=(qab l++z).length):Frz H (.sl id tot 0 0 n) (.list (qab l)):=by
 subst hn ht
 refine Frz.sl hb rfl (by simp[esz,qah]) (qah l) (qek l) (by rw[qbx];exact qgd l) fun k hk=>?_
 have hk':k<(qab l).length:=by rw[qah];simpa [esz] using hk
 rw[qbx,Nat.zero_add]
 simp only[]
 rw[List.getD_eq_getElem?_getD,List.getElem?_append_left hk',←List.getD_eq_getElem?_getD]
 exact .same (qbb (qae _ l) k)
theorem qm6 {H:Heap}(ks:List Int):Frz H (kidT ks) (.list (qab ks)):=by
 cases ks with
 | nil=>exact .nil
 | cons k ks=>exact .same (by simp[kidT,T.fro,T.cl])
theorem qlJ {H:Heap}:∀l:List Nd,All2 (fun a b=>a.1=b.1∧Frz H a.2 b.2) (l.map nN) (l.map nL)
 | []=>.nil
 | x::l=>.cons ⟨rfl,qm6 _⟩ (qlJ l)
theorem qr1 {H:Heap}(A B:List Nd)(y:Int)(K:T)(ks:List Int)(h:Frz H K (.list (qab ks))):All2 (fun a b=>a.1=b.1∧Frz H a.2 b.2) (A.map nN++(y,K)::B.map nN) ((A++⟨y,ks⟩::B).map nL):=by
 induction A with
 | nil=>exact .cons ⟨rfl,h⟩ (qlJ B)
 | cons x A ih=>exact .cons ⟨rfl,qm6 _⟩ ih
theorem qt3 (l:List Nd):∀b∈l.map nL,b.2.one=true:=fun b hb=>by
 obtain⟨x,_,rfl⟩:=List.mem_map.1 hb
 rfl
theorem qht {H:Heap}{id N:Nat}(A B:List Nd)(y:Int)(K:T)(ks:List Int)(hb:H id=sN (qaF (A.map nN++(y,K)::B.map nN)))(hN:A.length+1+B.length=N)(h:Frz H K (.list (qab ks))):Frz H (.sl id (N*2) 2 0 N) (.list (qaY ((A++⟨y,ks⟩::B).map nL))):=by
 refine frzC _ _ [] (by rw[List.append_nil];exact hb) ?_ ?_ (qr1 A B y K ks h) (qt3 _)
 ·simp;omega
 ·simp[qbd];omega
theorem cloneN_tc' (l:List (Int×T))(h:l≠[])(hl:l.length≤1000000):TC Tryz.prog 68 [.list (qaY l)] (hpL []) (.sl 300 (l.length*2) 2 0 l.length) (hpL [(300,.live ⟨100,qaF l⟩)]):=by
 rcases l with _ | ⟨x,l⟩
 ·exact absurd rfl h
 ·exact qpJ x l hl
theorem qeR (A:List (Int×T))(x:Int×T)(B:List (Int×T))(i:Nat)(h:A.length=i):List.take 1 (List.drop (i*2+1) (qaF (A++x::B)))=[x.2]:=by
 have hl:=qbd A
 rw[h] at hl
 rw[qen,show i*2+1=(qaF A).length+1 by omega,←List.drop_drop,List.drop_left]
 rfl
theorem qd2 (A:List (Int×T))(x y:Int×T)(B:List (Int×T))(i:Nat)(h:A.length=i):List.take (i*2) (qaF (A++x::B))++[.int .i64 y.1,y.2]++List.drop (i*2+2) (qaF (A++x::B))=qaF (A++y::B):=by
 have hl:=qbd A
 rw[h] at hl
 rw[qen,qen,←hl,List.take_left,←List.drop_drop,List.drop_left]
 simp[qaF]
theorem qqd (A:List (Int×T))(x:Int×T)(B:List (Int×T))(i:Nat)(h:A.length=i):List.take (i*2) (qaF (A++x::B))++List.drop ((i+1)*2) (qaF (A++x::B))=qaF (A++B):=by
 have hl:=qbd A
 rw[h] at hl
 rw[qen,qen,show (i+1)*2=i*2+2 by omega,←hl,List.take_left,←List.drop_drop,List.drop_left]
 simp[qaF]
theorem qhi (D:Nat→Bool):∀l:List Nd,clL D (qaY (l.map nN))=true
 | []=>rfl
 | x::l=>by
  have:=qhi D l
  show clL D (encC (nN x)::qaY (l.map nN))=true
  simp only[clL,this,Bool.and_true]
  simp[encC,nN,T.cl,clL,qhH]
theorem qp4 (D:Nat→Bool)(A B:List Nd)(n:Nd):clL D (qaY (A.map nN++nN n::B.map nN))=true:=by
 have:=qhi D (A++n::B)
 simpa using this
theorem qqc (D:Nat→Bool)(A B:List Nd)(n:Nd):clL D (qaF (A.map nN++nN n::B.map nN))=true:=by
 have:=qbR D (A++n::B)
 simpa using this
theorem qqb (D:Nat→Bool)(A B:List Nd):clL D (qaF (A.map nN++B.map nN))=true:=by
 have:=qbR D (A++B)
 simpa using this
attribute [local simp] qhi qp4 qbR qqc qqb
set_option maxHeartbeats 4000000 in
theorem qm5 (x:Int)(nx:List Int)(hl:nx.length≤1000):TP Tryz.prog 69 [.list (qab (x::nx))] (.agg [.int .i64 x,.list (qab nx)]):=by
 have hl1:(qab (x::nx)).length=nx.length+1:=by simp[qab]
 have hg1:(qab (x::nx)).getD (0:Int).toNat .undef=.int .i64 x:=rfl
 rcases nx with _ | ⟨y,ny⟩
 ·have h:=qoq
  have fX:=(cJ2 @hl1 @hg1)
  refine qan fn69 (by simp) ?_
  unfold i69
  simp only[argL]
  refine wR0 0 [0,2] fX ?_
  refine wRn 100 [2] fX ?_
  refine rC fX ?_
  refine⟨_,h,rE fX ?_⟩
  refine wP ?_
  exact Frz.aggL (.cons (.same rfl) (.cons (.same rfl) .nil)) rfl
 ·have h:=qmM y ny (by simp at hl ⊢;omega)
  have hdr:(List.take (ny.length+1+1 - Int.toNat 1) (List.drop (Int.toNat 1) (qab (x::y::ny))))=qab (y::ny):=by
   rw[List.take_of_length_le (by simp[qab])];rfl
  have fX:=(cJ3 @hl1 @hg1 @hdr)
  refine qan fn69 (by simp) ?_
  unfold i69
  simp only[argL]
  refine wR0 0 [0,2] fX ?_
  refine wRn 100 [2] fX ?_
  refine rU [] [(300,.live ⟨3,qab (y::ny)⟩)] fX ?_
  refine⟨_,h,rE fX ?_⟩
  refine wP ?_
  exact Frz.aggL (.cons (.same rfl) (.cons (qb0 (y::ny) rfl rfl rfl) .nil)) rfl
set_option maxHeartbeats 8000000 in
theorem qkg (A B:List Nd)(n:Nd)(i N:Nat)(hA:A.length=i)(hN:A.length+1+B.length=N)(hl:N≤100000)(p:List Int):TP Tryz.prog 42 [.list (qaY ((A++n::B).map nN)),.list (qab (i::p)),.list []] (.list (qaY ((A++B).map nL))):=by
 have hl1:(qab ((i:Int)::p)).length=p.length+1:=by simp[qab]
 have hg1:(qab ((i:Int)::p)).getD (0:Int).toNat .undef=.int .i64 i:=rfl
 have hNl:(((A++n::B).map nN).length)=N:=by simp;omega
 have hfl:(qaF ((A++n::B).map nN)).length=N*2:=by rw[qbd,hNl]
 have hi:(i:Int)<(N:Int):=by omega
 have h10:(((p.length+1:Nat):Int)==0)=false:=by simp;omega
 have hw:IntKind.wrap .i64 ((i:Int)+1)=(i:Int)+1:=wrap64 (by omega) (by omega)
 have hcl:=cloneN_tc' ((A++n::B).map nN) (by simp) (by omega)
 rw[hNl] at hcl
 have h00:(([]:List T).length)=0:=rfl
 have hd:=quw 300 N i (qaF ((A++n::B).map nN)) hfl (by omega) (by omega)
 have hct:=qqd (A.map nN) (nN n) (B.map nN) i (by simpa using hA)
 rw[←List.map_cons,←List.map_append,←List.map_append] at hct
 rw[hct] at hd
 have fX:=(cJ5 @hl1 @hg1 @hNl @hfl @hw)
 refine qan fn42 (by simp) ?_
 unfold i42
 simp only[argL]
 refine wR0 0 [0,1,2] fX ?_
 refine wRn 100 [1,2,7] fX ?_
 refine rU [] [(300,.live ⟨100,qaF ((A++n::B).map nN)⟩)] fX ?_
 refine⟨_,hcl,rE fX ?_⟩
 refine wR0 200 [1,2,7,11] fX ?_
 refine wF fX ?_
 refine wR0 400 [1,2,7,20] fX ?_
 refine wT fX ?_
 refine wRn 500 [6] fX ?_
 refine rU [(300,.live ⟨100,qaF ((A++n::B).map nN)⟩)] [(300,.live ⟨100,qaF ((A++B).map nN)++[.int .i64 0,.nil]⟩)] fX ?_
 refine⟨_,hd.full1,rE fX ?_⟩
 refine wP ?_
 exact frzC _ _ [.int .i64 0,.nil] rfl (by simp;omega) (by simp[qbd];omega) (qlJ _) (qt3 _)
theorem ql0 {ks:List Int}(h:ks≠[]):kidT ks=.list (qab ks):=by
 cases ks with
 | nil=>exact absurd rfl h
 | cons k ks=>rfl
theorem clone_tc' (l:List Int)(h:l≠[])(hl:l.length≤1000000):TC Tryz.prog 71 [.list (qab l)] (hpL []) (.sl 410 l.length 0 0 l.length) (hpL [(410,.live ⟨3,qab l⟩)]):=by
 rcases l with _ | ⟨x,l⟩
 ·exact absurd rfl h
 ·have r:∀(σ:Nat→Nat) (k:List Int),renL σ (qab k)=qab k:=fun σ k=>qby _ (qae _ k)
  refine qg0 [(300,410)] (qmM x l hl) ?_ rfl ?_ ?_
  ·simp[renL,T.ren,r]
  ·simp[T.ren,swps,swp]
  ·simp[Slot.ren,r,swps,swp]
set_option maxHeartbeats 8000000 in
theorem qom (A B:List Nd)(n:Nd)(E F:List Int)(b x y:Int)(nx:List Int)(i j N M:Nat)(hk:n.kids=E++b::F)(hA:A.length=i)(hE:E.length=j)(hN:A.length+1+B.length=N)(hM:n.kids.length=M)(hl:N≤100000)(hm:M≤100000):TP Tryz.prog 42 [.list (qaY ((A++n::B).map nN)),.list (qab [(i:Int),j]),.list (qab (x::y::nx))] (.list (qaY ((A++⟨x,E++y::F⟩::B).map nL))):=by
 obtain⟨p,hp⟩:∃p,p=[(j:Int)]:=⟨_,rfl⟩
 rw[←hp]
 have hl1:(qab ((i:Int)::p)).length=p.length+1:=by simp[qab]
 have hg1:(qab ((i:Int)::p)).getD (0:Int).toNat .undef=.int .i64 i:=rfl
 have hNl:(((A++n::B).map nN).length)=N:=by simp;omega
 have hfl:(qaF ((A++n::B).map nN)).length=N*2:=by rw[qbd,hNl]
 have hi:(i:Int)<(N:Int):=by omega
 have h10:(((p.length+1:Nat):Int)==0)=false:=by simp;omega
 have hw:IntKind.wrap .i64 ((i:Int)+1)=(i:Int)+1:=wrap64 (by omega) (by omega)
 have hcl:=cloneN_tc' ((A++n::B).map nN) (by simp) (by omega)
 rw[hNl] at hcl
 have hnk:n.kids≠[]:=by rw[hk];simp
 have hkt:kidT n.kids=.list (qab n.kids):=ql0 hnk
 have hkc:=clone_tc' n.kids hnk (by omega)
 rw[hM] at hkc
 have hel:(qab n.kids).length=M:=by rw[qah,hM]
 have hrd:=qeR (A.map nN) (nN n) (B.map nN) i (by simpa using hA)
 rw[←List.map_cons,←List.map_append,show (nN n).2=kidT n.kids from rfl,hkt] at hrd
 have hwr:∀K:T,List.take (i*2) (qaF ((A++n::B).map nN))++[.int .i64 x,K]++List.drop (i*2+2) (qaF ((A++n::B).map nN))=qaF (A.map nN++(x,K)::B.map nN):=fun K=>by
  have:=qd2 (A.map nN) (nN n) (x,K) (B.map nN) i (by simpa using hA)
  rw[←List.map_cons,←List.map_append] at this
  exact this
 have ho:((i:Int)).toNat*2+Int.toNat 1*1=i*2+1:=by simp
 have ho0:((i:Int)).toNat*2=i*2:=by simp
 have hMj:M=j+1+F.length:=by rw[←hM,hk];simp;omega
 have hj:(j:Int)<(M:Int):=by omega
 have hpl:p.length=1:=by rw[hp];rfl
 have hg2:(qab ((i:Int)::p)).getD (1:Int).toNat .undef=.int .i64 j:=by rw[hp];rfl
 have hl2:(qab (x::y::nx)).length=nx.length+2:=by simp[qab]
 have hy0:(qab (x::y::nx)).getD (0:Int).toNat .undef=.int .i64 x:=rfl
 have hy1:(qab (x::y::nx)).getD (1:Int).toNat .undef=.int .i64 y:=rfl
 have hjw:List.take ((j:Int).toNat*1) (qab n.kids)++[.int .i64 y]++List.drop ((j:Int).toNat*1+1) (qab n.kids)=qab (E++y::F):=by
  rw[Int.toNat_natCast,Nat.mul_one]
  have e:qab n.kids=qab E++.int .i64 b::qab F:=by rw[hk];simp[qab]
  have el:(qab E).length=j:=by rw[qah,hE]
  rw[e,←el,List.take_left,←List.drop_drop,List.drop_left]
  simp[qab]
 have hc1:(((p.length+1:Nat):Int)==0)=false:=h10
 have hc2:(((nx.length+2:Nat):Int)==0)=false:=by simp;omega
 have hc3:decide (1<((p.length+1:Nat):Int))=true:=by simp[hpl]
 have hc4:decide (1<((nx.length+2:Nat):Int))=true:=by simp;omega
 have fX:=(cJ8 @hl1 @hg1 @hNl @hfl @hw @hl2 @hy0 (cJ8 @hy1 @hg2 @ho @ho0 @hrd @hwr @hel @hjw))
 refine qan fn42 (by simp) ?_
 unfold i42
 simp only[argL]
 refine wR0 0 [0,1,2] fX ?_
 refine wRn 100 [1,2,7] fX ?_
 refine rU [] [(300,.live ⟨100,qaF ((A++n::B).map nN)⟩)] fX ?_
 refine⟨_,hcl,rE fX ?_⟩
 refine wR0 200 [1,2,7,11] fX ?_
 refine wF @hc1 ?_
 refine wR0 400 [1,2,7,20] fX ?_
 refine wF @hc2 ?_
 refine wRn 600 [1,2,7,8] fX ?_
 refine rU [] [(410,.live ⟨3,qab n.kids⟩)] fX ?_
 refine⟨_,hkc,rE fX ?_⟩
 refine wR0 700 [1,2,7,8,51] fX ?_
 refine wT (cJ2 @hc3 @hc4) ?_
 refine wR0 800 [1,7,8] fX ?_
 refine wR0 1200 [7] fX ?_
 refine wR0 1300 [6] fX ?_
 refine wP ?_
 exact qht A B x _ _ rfl hN (qb0 _ rfl (by simp;omega) (by simp;omega))
set_option maxHeartbeats 8000000 in
theorem qon (A B:List Nd)(n:Nd)(E F:List Int)(b x:Int)(i j N M:Nat)(hk:n.kids=E++b::F)(hA:A.length=i)(hE:E.length=j)(hN:A.length+1+B.length=N)(hM:n.kids.length=M)(hl:N≤100000)(hm:M≤100000):TP Tryz.prog 42 [.list (qaY ((A++n::B).map nN)),.list (qab [(i:Int),j]),.list (qab [x])] (.list (qaY ((A++⟨x,E++F⟩::B).map nL))):=by
 obtain⟨p,hp⟩:∃p,p=[(j:Int)]:=⟨_,rfl⟩
 rw[←hp]
 have hl1:(qab ((i:Int)::p)).length=p.length+1:=by simp[qab]
 have hg1:(qab ((i:Int)::p)).getD (0:Int).toNat .undef=.int .i64 i:=rfl
 have hNl:(((A++n::B).map nN).length)=N:=by simp;omega
 have hfl:(qaF ((A++n::B).map nN)).length=N*2:=by rw[qbd,hNl]
 have hi:(i:Int)<(N:Int):=by omega
 have h10:(((p.length+1:Nat):Int)==0)=false:=by simp;omega
 have hw:IntKind.wrap .i64 ((i:Int)+1)=(i:Int)+1:=wrap64 (by omega) (by omega)
 have hcl:=cloneN_tc' ((A++n::B).map nN) (by simp) (by omega)
 rw[hNl] at hcl
 have hnk:n.kids≠[]:=by rw[hk];simp
 have hkt:kidT n.kids=.list (qab n.kids):=ql0 hnk
 have hkc:=clone_tc' n.kids hnk (by omega)
 rw[hM] at hkc
 have hel:(qab n.kids).length=M:=by rw[qah,hM]
 have hrd:=qeR (A.map nN) (nN n) (B.map nN) i (by simpa using hA)
 rw[←List.map_cons,←List.map_append,show (nN n).2=kidT n.kids from rfl,hkt] at hrd
 have hwr:∀K:T,List.take (i*2) (qaF ((A++n::B).map nN))++[.int .i64 x,K]++List.drop (i*2+2) (qaF ((A++n::B).map nN))=qaF (A.map nN++(x,K)::B.map nN):=fun K=>by
  have:=qd2 (A.map nN) (nN n) (x,K) (B.map nN) i (by simpa using hA)
  rw[←List.map_cons,←List.map_append] at this
  exact this
 have ho:((i:Int)).toNat*2+Int.toNat 1*1=i*2+1:=by simp
 have ho0:((i:Int)).toNat*2=i*2:=by simp
 have hMj:M=j+1+F.length:=by rw[←hM,hk];simp;omega
 have hpl:p.length=1:=by rw[hp];rfl
 have hg2:(qab ((i:Int)::p)).getD (1:Int).toNat .undef=.int .i64 j:=by rw[hp];rfl
 have hl2:(qab [x]).length=1:=by simp[qab]
 have hy0:(qab [x]).getD (0:Int).toNat .undef=.int .i64 x:=rfl
 have hwj:IntKind.wrap .i64 ((j:Int)+1)=(j:Int)+1:=wrap64 (by omega) (by omega)
 have hd:=quv 410 M j (qab n.kids) (by rw[hel];omega) (by omega) (by omega)
 have hct:List.take (j*1) (qab n.kids)++List.drop ((j+1)*1) (qab n.kids)=qab (E++F):=by
  have e:qab n.kids=qab E++.int .i64 b::qab F:=by rw[hk];simp[qab]
  have el:(qab E).length=j:=by rw[qah,hE]
  rw[e,Nat.mul_one,Nat.mul_one,←el,List.take_left,←List.drop_drop,List.drop_left]
  simp[qab]
 rw[hct,Nat.mul_one] at hd
 have hc1:(((p.length+1:Nat):Int)==0)=false:=h10
 have hc2:(((1:Nat):Int)==0)=false:=rfl
 have hc3:decide (1<((p.length+1:Nat):Int))=true:=by simp[hpl]
 have hc4:decide (1<((1:Nat):Int))=false:=rfl
 have fX:=(cJ8 @hl1 @hg1 @hNl @hfl @hw @hl2 @hy0 (cJ7 @hg2 @ho @ho0 @hrd @hwr @hel @hwj))
 refine qan fn42 (by simp) ?_
 unfold i42
 simp only[argL]
 refine wR0 0 [0,1,2] fX ?_
 refine wRn 100 [1,2,7] fX ?_
 refine rU [] [(300,.live ⟨100,qaF ((A++n::B).map nN)⟩)] fX ?_
 refine⟨_,hcl,rE fX ?_⟩
 refine wR0 200 [1,2,7,11] fX ?_
 refine wF @hc1 ?_
 refine wR0 400 [1,2,7,20] fX ?_
 refine wF @hc2 ?_
 refine wRn 600 [1,2,7,8] fX ?_
 refine rU [] [(410,.live ⟨3,qab n.kids⟩)] fX ?_
 refine⟨_,hkc,rE fX ?_⟩
 refine wR0 700 [1,2,7,8,51] fX ?_
 refine wF (cJ2 @hc3 @hc4) ?_
 refine wR0 900 [1,2,7,8,69] fX ?_
 refine wT @hc3 ?_
 refine wRn 1000 [1,7,8] fX ?_
 refine rU [(410,.live ⟨3,qab n.kids⟩)] [(410,.live ⟨3,qab (E++F)++[.int .i64 0]⟩)] fX ?_
 refine⟨_,hd.full1,rE fX ?_⟩
 refine wR0 1200 [7] fX ?_
 refine wR0 1300 [6] fX ?_
 refine wP ?_
 exact qht A B x _ _ rfl hN (qqi (E++F) [.int .i64 0] rfl (by simp;omega) (by simp[qah];omega))
set_option maxHeartbeats 8000000 in
theorem qoo (A B:List Nd)(n:Nd)(x:Int)(nx:List Int)(i N M:Nat)(hnk:n.kids≠[])(hA:A.length=i)(hN:A.length+1+B.length=N)(hM:n.kids.length=M)(hl:N≤100000)(hm:M≤100000)(hx:nx.length≤100000):TP Tryz.prog 42 [.list (qaY ((A++n::B).map nN)),.list (qab [(i:Int)]),.list (qab (x::nx))] (.list (qaY ((A++⟨x,n.kids++nx⟩::B).map nL))):=by
 obtain⟨p,hp⟩:∃p:List Int,p=[]:=⟨_,rfl⟩
 rw[←hp]
 have hl1:(qab ((i:Int)::p)).length=p.length+1:=by simp[qab]
 have hg1:(qab ((i:Int)::p)).getD (0:Int).toNat .undef=.int .i64 i:=rfl
 have hNl:(((A++n::B).map nN).length)=N:=by simp;omega
 have hfl:(qaF ((A++n::B).map nN)).length=N*2:=by rw[qbd,hNl]
 have hi:(i:Int)<(N:Int):=by omega
 have h10:(((p.length+1:Nat):Int)==0)=false:=by simp;omega
 have hw:IntKind.wrap .i64 ((i:Int)+1)=(i:Int)+1:=wrap64 (by omega) (by omega)
 have hcl:=cloneN_tc' ((A++n::B).map nN) (by simp) (by omega)
 rw[hNl] at hcl
 have hpl:p.length=0:=by rw[hp];rfl
 have hl2:(qab (x::nx)).length=nx.length+1:=by simp[qab]
 have hy0:(qab (x::nx)).getD (0:Int).toNat .undef=.int .i64 x:=rfl
 have hc1:(((p.length+1:Nat):Int)==0)=false:=h10
 have hc2:(((nx.length+1:Nat):Int)==0)=false:=by simp;omega
 have hc3:decide (1<((p.length+1:Nat):Int))=false:=by simp[hpl]
 have hdr:(List.take (nx.length+1 - Int.toNat 1) (List.drop (Int.toNat 1) (qab (x::nx))))=qab nx:=by
  rw[List.take_of_length_le (by simp[qab])];rfl
 have hkt:kidT n.kids=.list (qab n.kids):=ql0 hnk
 have hkc:=clone_tc' n.kids hnk (by omega)
 rw[hM] at hkc
 have hel:(qab n.kids).length=M:=by rw[qah,hM]
 have hrd:=qeR (A.map nN) (nN n) (B.map nN) i (by simpa using hA)
 rw[←List.map_cons,←List.map_append,show (nN n).2=kidT n.kids from rfl,hkt] at hrd
 have hwr:∀K:T,List.take (i*2) (qaF ((A++n::B).map nN))++[.int .i64 x,K]++List.drop (i*2+2) (qaF ((A++n::B).map nN))=qaF (A.map nN++(x,K)::B.map nN):=fun K=>by
  have:=qd2 (A.map nN) (nN n) (x,K) (B.map nN) i (by simpa using hA)
  rw[←List.map_cons,←List.map_append] at this
  exact this
 have ho:((i:Int)).toNat*2+Int.toNat 1*1=i*2+1:=by simp
 have ho0:((i:Int)).toNat*2=i*2:=by simp
 rcases nx with _ | ⟨y,ny⟩
 ·have fX:=(cJ8 @hl1 @hg1 @hNl @hfl @hw @hl2 @hy0 (cJ6 @ho @ho0 @hrd @hwr @hel @hdr))
  refine qan fn42 (by simp) ?_
  unfold i42
  simp only[argL]
  refine wR0 0 [0,1,2] fX ?_
  refine wRn 100 [1,2,7] fX ?_
  refine rU [] [(300,.live ⟨100,qaF ((A++n::B).map nN)⟩)] fX ?_
  refine⟨_,hcl,rE fX ?_⟩
  refine wR0 200 [1,2,7,11] fX ?_
  refine wF @hc1 ?_
  refine wR0 400 [1,2,7,20] fX ?_
  refine wF @hc2 ?_
  refine wRn 600 [1,2,7,8] fX ?_
  refine rU [] [(410,.live ⟨3,qab n.kids⟩)] fX ?_
  refine⟨_,hkc,rE fX ?_⟩
  refine wR0 700 [1,2,7,8,51] fX ?_
  refine wF @hc3 ?_
  refine wR0 900 [1,2,7,8,69] fX ?_
  refine wF @hc3 ?_
  refine wR0 1100 [1,7,8] fX ?_
  refine wR0 1200 [7] fX ?_
  refine wR0 1300 [6] fX ?_
  refine wP ?_
  exact qht A B x _ _ rfl hN (by rw[List.append_nil];exact qb0 _ rfl (by omega) (by omega))
 ·have hdr1:(List.take (ny.length+1+1 - Int.toNat 1) (List.drop (Int.toNat 1) (qab (x::y::ny))))=qab (y::ny):=by
   rw[List.take_of_length_le (by simp[qab])];rfl
  have hl3:(qab (x::y::ny)).length=ny.length+1+1:=by simp[qab]
  have hey:(qab (y::ny)).length=ny.length+1:=by rw[qah];rfl
  have hfe:=qbx (y::ny)
  have hap:qab n.kids++qab (y::ny)=qab (n.kids++y::ny):=by simp[qab]
  have fX:=(cJ8 @hl1 @hg1 @hNl @hfl @hw @hl3 @hy0 (cJ8 @ho @ho0 @hrd @hwr @hel @hdr1 @hey (cJ2 @hfe @hap)))
  refine qan fn42 (by simp) ?_
  unfold i42
  simp only[argL]
  refine wR0 0 [0,1,2] fX ?_
  refine wRn 100 [1,2,7] fX ?_
  refine rU [] [(300,.live ⟨100,qaF ((A++n::B).map nN)⟩)] fX ?_
  refine⟨_,hcl,rE fX ?_⟩
  refine wR0 200 [1,2,7,11] fX ?_
  refine wF @hc1 ?_
  refine wR0 400 [1,2,7,20] fX ?_
  refine wF @hc2 ?_
  refine wRn 600 [1,2,7,8] fX ?_
  refine rU [] [(410,.live ⟨3,qab n.kids⟩)] fX ?_
  refine⟨_,hkc,rE fX ?_⟩
  refine wR0 700 [1,2,7,8,51] fX ?_
  refine wF @hc3 ?_
  refine wR0 900 [1,2,7,8,69] fX ?_
  refine wF @hc3 ?_
  refine wR0 1100 [1,7,8] fX ?_
  refine wR0 1200 [7] fX ?_
  refine wR0 1300 [6] fX ?_
  refine wP ?_
  exact qht A B x _ _ rfl hN (qb0 _ rfl (by simp;omega) (by simp;omega))
set_option maxHeartbeats 8000000 in
theorem qol (A B:List Nd)(n:Nd)(x:Int)(nx:List Int)(i N:Nat)(hnk:n.kids=[])(hA:A.length=i)(hN:A.length+1+B.length=N)(hl:N≤100000)(hx:nx.length≤100000):TP Tryz.prog 42 [.list (qaY ((A++n::B).map nN)),.list (qab [(i:Int)]),.list (qab (x::nx))] (.list (qaY ((A++⟨x,nx⟩::B).map nL))):=by
 obtain⟨p,hp⟩:∃p:List Int,p=[]:=⟨_,rfl⟩
 rw[←hp]
 have hl1:(qab ((i:Int)::p)).length=p.length+1:=by simp[qab]
 have hg1:(qab ((i:Int)::p)).getD (0:Int).toNat .undef=.int .i64 i:=rfl
 have hNl:(((A++n::B).map nN).length)=N:=by simp;omega
 have hfl:(qaF ((A++n::B).map nN)).length=N*2:=by rw[qbd,hNl]
 have hi:(i:Int)<(N:Int):=by omega
 have h10:(((p.length+1:Nat):Int)==0)=false:=by simp;omega
 have hw:IntKind.wrap .i64 ((i:Int)+1)=(i:Int)+1:=wrap64 (by omega) (by omega)
 have hcl:=cloneN_tc' ((A++n::B).map nN) (by simp) (by omega)
 rw[hNl] at hcl
 have hpl:p.length=0:=by rw[hp];rfl
 have hl2:(qab (x::nx)).length=nx.length+1:=by simp[qab]
 have hy0:(qab (x::nx)).getD (0:Int).toNat .undef=.int .i64 x:=rfl
 have hc1:(((p.length+1:Nat):Int)==0)=false:=h10
 have hc2:(((nx.length+1:Nat):Int)==0)=false:=by simp;omega
 have hc3:decide (1<((p.length+1:Nat):Int))=false:=by simp[hpl]
 have hdr:(List.take (nx.length+1 - Int.toNat 1) (List.drop (Int.toNat 1) (qab (x::nx))))=qab nx:=by
  rw[List.take_of_length_le (by simp[qab])];rfl
 have hkt:kidT n.kids=.nil:=by rw[hnk];rfl
 have hkc:=qpK
 have hrd:=qeR (A.map nN) (nN n) (B.map nN) i (by simpa using hA)
 rw[←List.map_cons,←List.map_append,show (nN n).2=kidT n.kids from rfl,hkt] at hrd
 have hwr:∀K:T,List.take (i*2) (qaF ((A++n::B).map nN))++[.int .i64 x,K]++List.drop (i*2+2) (qaF ((A++n::B).map nN))=qaF (A.map nN++(x,K)::B.map nN):=fun K=>by
  have:=qd2 (A.map nN) (nN n) (x,K) (B.map nN) i (by simpa using hA)
  rw[←List.map_cons,←List.map_append] at this
  exact this
 have ho:((i:Int)).toNat*2+Int.toNat 1*1=i*2+1:=by simp
 have ho0:((i:Int)).toNat*2=i*2:=by simp
 rcases nx with _ | ⟨y,ny⟩
 ·have fX:=(cJ8 @hl1 @hg1 @hNl @hfl @hw @hl2 @hy0 (cJ5 @ho @ho0 @hrd @hwr @hdr))
  refine qan fn42 (by simp) ?_
  unfold i42
  simp only[argL]
  refine wR0 0 [0,1,2] fX ?_
  refine wRn 100 [1,2,7] fX ?_
  refine rU [] [(300,.live ⟨100,qaF ((A++n::B).map nN)⟩)] fX ?_
  refine⟨_,hcl,rE fX ?_⟩
  refine wR0 200 [1,2,7,11] fX ?_
  refine wF @hc1 ?_
  refine wR0 400 [1,2,7,20] fX ?_
  refine wF @hc2 ?_
  refine wRn 600 [1,2,7,8] fX ?_
  refine rC fX ?_
  refine⟨_,hkc,rE fX ?_⟩
  refine wR0 700 [1,2,7,8,51] fX ?_
  refine wF @hc3 ?_
  refine wR0 900 [1,2,7,8,69] fX ?_
  refine wF @hc3 ?_
  refine wR0 1100 [1,7,8] fX ?_
  refine wR0 1200 [7] fX ?_
  refine wR0 1300 [6] fX ?_
  refine wP ?_
  exact qht A B x _ _ rfl hN .nil
 ·have hdr1:(List.take (ny.length+1+1 - Int.toNat 1) (List.drop (Int.toNat 1) (qab (x::y::ny))))=qab (y::ny):=by
   rw[List.take_of_length_le (by simp[qab])];rfl
  have hl3:(qab (x::y::ny)).length=ny.length+1+1:=by simp[qab]
  have hey:(qab (y::ny)).length=ny.length+1:=by rw[qah];rfl
  have hfe:=qbx (y::ny)
  have fX:=(cJ8 @hl1 @hg1 @hNl @hfl @hw @hl3 @hy0 (cJ7 @ho @ho0 @hrd @hwr @hdr1 @hey @hfe))
  refine qan fn42 (by simp) ?_
  unfold i42
  simp only[argL]
  refine wR0 0 [0,1,2] fX ?_
  refine wRn 100 [1,2,7] fX ?_
  refine rU [] [(300,.live ⟨100,qaF ((A++n::B).map nN)⟩)] fX ?_
  refine⟨_,hcl,rE fX ?_⟩
  refine wR0 200 [1,2,7,11] fX ?_
  refine wF @hc1 ?_
  refine wR0 400 [1,2,7,20] fX ?_
  refine wF @hc2 ?_
  refine wRn 600 [1,2,7,8] fX ?_
  refine rC fX ?_
  refine⟨_,hkc,rE fX ?_⟩
  refine wR0 700 [1,2,7,8,51] fX ?_
  refine wF @hc3 ?_
  refine wR0 900 [1,2,7,8,69] fX ?_
  refine wF @hc3 ?_
  refine wR0 1100 [1,7,8] fX ?_
  refine wR0 1200 [7] fX ?_
  refine wR0 1300 [6] fX ?_
  refine wP ?_
  exact qht A B x _ _ rfl hN (qb0 _ rfl (by simp) (by simp))
set_option maxHeartbeats 8000000 in
theorem qoj (x:Int)(nx:List Int)(hx:nx.length≤1000):TP Tryz.prog 42 [.nil,.list [],.list (qab (x::nx))] (.list (qaY [(x,.list (qab nx))])):=by
 have hcl:=qop
 have hfr:=qm5 x nx hx
 have fX:=(cJ2 @qbp @qcp)
 refine qan fn42 (by simp) ?_
 unfold i42
 simp only[argL]
 refine wR0 0 [0,1,2] fX ?_
 refine wRn 100 [1,2,7] fX ?_
 refine rC fX ?_
 refine⟨_,hcl,rE fX ?_⟩
 refine wR0 200 [1,2,7,11] fX ?_
 refine wT fX ?_
 refine wRn 300 [6] fX ?_
 refine rC fX ?_
 refine⟨_,hfr,rE fX ?_⟩
 refine wP ?_
 exact frzC [(x,.list (qab nx))] [(x,.list (qab nx))] [] rfl rfl rfl (.cons ⟨rfl,.same (by simp[T.fro,T.cl])⟩ .nil) (fun b hb=>by simp at hb;subst hb;rfl)
theorem quA {H:Heap}{id N tot:Nat}(L:List Nd)(x:Int)(nx:List Int)(hb:H id=sN (qaF (L.map nN)++[.int .i64 x,.list (qab nx)]))(ht:tot=(N+1)*2)(hN:L.length=N):Frz H (.sl id tot 2 0 (N+1)) (.list (qaY ((L++[(⟨x,nx⟩:Nd)]).map nL))):=by
 subst ht
 refine qht (N:=N+1) L [] x (.list (qab nx)) nx ?_ (by simp;omega) (.same (by simp[T.fro,T.cl]))
 rw[hb,List.map_nil]
 simp[qaF]
set_option maxHeartbeats 8000000 in
theorem qok (L:List Nd)(hL:L≠[])(N:Nat)(hN:L.length=N)(hl:N≤100000)(x:Int)(nx:List Int)(hx:nx.length≤1000):TP Tryz.prog 42 [.list (qaY (L.map nN)),.list [],.list (qab (x::nx))] (.list (qaY ((L++[(⟨x,nx⟩:Nd)]).map nL))):=by
 have hNl:(L.map nN).length=N:=by simp;omega
 have hfl:(qaF (L.map nN)).length=N*2:=by rw[qbd,hNl]
 have hcl:=cloneN_tc' (L.map nN) (by simpa using hL) (by omega)
 rw[hNl] at hcl
 have hfr:=qm5 x nx hx
 have hap:qaF (L.map nN)++[.int .i64 x,.list (qab nx)]=qaF (L.map nN++[(x,.list (qab nx))]):=by simp[qaF]
 have h2:N*2+2=(N+1)*2:=by omega
 have fX:=(cJ4 @hNl @hfl @qbp @qcp)
 refine qan fn42 (by simp) ?_
 unfold i42
 simp only[argL]
 refine wR0 0 [0,1,2] fX ?_
 refine wRn 100 [1,2,7] fX ?_
 refine rU [] [(300,.live ⟨100,qaF (L.map nN)⟩)] fX ?_
 refine⟨_,hcl,rE fX ?_⟩
 refine wR0 200 [1,2,7,11] fX ?_
 refine wT fX ?_
 refine wRn 300 [6] fX ?_
 refine rC fX ?_
 refine⟨_,hfr,rE fX ?_⟩
 refine wP ?_
 exact quA L x nx rfl (by omega) hN
theorem ql6 {l:List Nd}(h:l≠[]):ndsT l=.list (qaY (l.map nN)):=by
 cases l with
 | nil=>exact absurd rfl h
 | cons x l=>rfl
theorem ql5 (l:List Nd)(labels next p:List Int)(hp:p∈qa4 l labels)(h2:labels.length≤2)(hn:next.length≤1000)(hne:0<labels.length+next.length)(hl:l.length≤100)(hk:∀x∈l,x.kids.length≤100):TP Tryz.prog 42 [ndsT l,.list (qab p),.list (qab next)] (.list (qaY ((qaO l p next).map nL))):=by
 match labels,h2,hp,hne with
 | [],_,hp,hne=>
  rw[qqU] at hp
  subst hp
  rcases next with _ | ⟨x,nx⟩
  ·simp at hne
  ·rw[qfA]
   by_cases h:l=[]
   ·subst h;exact qoj x nx (by simp at hn;omega)
   ·rw[ql6 h];exact qok l h _ rfl (by omega) x nx (by simp at hn;omega)
 | [a],_,hp,_=>
  obtain⟨A,n,B,rfl,ha,rfl⟩:=(qoV _ _ _).1 hp
  rw[ql6 (by simp)]
  have hN:A.length+1+B.length≤100000:=by simp at hl;omega
  have hm:n.kids.length≤100:=hk n (by simp)
  rcases next with _ | ⟨x,nx⟩
  ·rw[qbz]
   exact qkg A B n _ _ rfl rfl hN []
  ·rw[qeI]
   have hx:nx.length≤100000:=by simp at hn;omega
   by_cases h:n.kids=[]
   ·rw[h,List.nil_append]
    exact qol A B n x nx _ _ h rfl rfl hN hx
   ·exact qoo A B n x nx _ _ _ h rfl rfl rfl hN (by omega) hx
 | [a,b],_,hp,_=>
  obtain⟨A,n,B,E,F,rfl,ha,h,rfl⟩:=(qoW _ _ _ _).1 hp
  rw[ql6 (by simp)]
  have hN:A.length+1+B.length≤100000:=by simp at hl;omega
  have hm:n.kids.length≤100000:=by have:=hk n (by simp);omega
  match next with
  | []=>rw[qbz];exact qkg A B n _ _ rfl rfl hN [(E.length:Int)]
  | [x]=>rw[qfB A n B E F b h];exact qon A B n E F b x _ _ _ _ h rfl rfl rfl rfl hN hm
  | x::y::nx=>rw[qeJ A n B E F b h];exact qom A B n E F b x y nx _ _ _ _ h rfl rfl rfl rfl hN hm
end
end Go.Proofs.YtpplncjaihgimaaGreat
