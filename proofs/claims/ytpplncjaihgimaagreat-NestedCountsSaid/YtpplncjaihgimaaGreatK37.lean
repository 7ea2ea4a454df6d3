/- Contracts of functions of the program, for all arguments that they name. -/
import Derived.Test.YtpplncjaihgimaaGreatK24
import Derived.Test.YtpplncjaihgimaaGreatK25
import Derived.Test.YtpplncjaihgimaaGreatK36
namespace Go.Proofs.YtpplncjaihgimaaGreat
set_option linter.unusedVariables false
section
open Go.RowKit
set_option maxHeartbeats 2000000
attribute [local simp] qay qai qae qaG
abbrev tyB (k s:Int)(rs:List Int)(ps:List Ty):Slot:=.live ⟨50,[.int .i64 k,.int .i64 s,.list (qab rs),.list (qak ps)]⟩
def bagT (ks:List V):T:=match ks with
 | []=>.nil
 | _::l=>.sl 410 ((l.length+1)*2) 2 0 (l.length+1)
def bagH (ks:List V):List (Nat×Slot):=match ks with
 | []=>[]
 | x::l=>[(410,rB (qaq (x::l)))]
abbrev cfB (s:Int)(ks:List V):V:=.mk 0 [.mk s [],.mk 0 ks]
theorem qsi (s:Int)(ks:List V)(hf:(cfB s ks).fit):TC Tryz.prog 25 [encV (cfB s ks)] (hpL []) (.agg [.int .i64 0,.sl 419 4 2 0 2]) (hpL ((419,rB [.int .i64 s,.list [],.int .i64 0,bagT ks])::bagH ks)):=by
 have r1:∀(σ:Nat→Nat) (xs:List V),renL σ (qac xs)=qac xs:=fun σ xs=>qby _ (qai _ _)
 have r2:∀(σ:Nat→Nat) (xs:List V),renL σ (qaq xs)=qaq xs:=fun σ xs=>qby _ (qay _ _)
 rcases ks with _ | ⟨x,l⟩
 ·refine qg0 [(409,419)] (qpX 0 s) ?_ rfl ?_ ?_
  ·simp only[encV,renL,T.ren,r1]
  ·simp[renL,T.ren,swps,swp]
  ·simp[renL,T.ren,swps,swp,Slot.ren,bagT,bagH]
 ·have h:=qsh 0 s x l hf.2.2.1
  refine qg0 [(409,419)] h ?_ rfl ?_ ?_
  ·simp only[encV,renL,T.ren,r1]
  ·simp[renL,T.ren,swps,swp]
  ·simp[renL,T.ren,swps,swp,Slot.ren,bagT,bagH,r2]
theorem qlX {H:Heap}{D:Nat→Bool}{id ty n tot:Nat}(ks:List V)(hb:H id=.live ⟨ty,qaq ks⟩)(hd:D id=false)(hn:n=ks.length)(ht:tot=ks.length*2):Fz H D (.sl id tot 2 0 n) (.list (qac ks)):=by
 subst hn ht
 refine Fz.sl hb hd (qaz ks) (by simp[esz]) (qag ks) (qcD ks) (by rw[←qbr];exact qbI ks) fun k hk=>?_
 rw[←qbr,Nat.zero_add]
 exact .same (qbb (qay _ ks) k)
theorem encVs_eq_nil' (l:List V):qac l=[]↔l=[]:=by
 cases l<;>simp[qac]
theorem qgw (l:List V):sizedB 2 (qac l)=true:=by
 rw[sizedB,List.all_eq_true]
 intro c hc
 have:=qcD l c hc
 simpa [esz] using this
attribute [local simp] encVs_eq_nil' qgw
theorem qm7 {H:Heap}{D:Nat→Bool}{s:Int}{B:T}{zs:List V}(hb:H 419=rB [.int .i64 s,.list [],.int .i64 0,B])(hd:D 419=false)(h:Fz H D B (.list (qac zs))):Fz H D (.sl 419 4 2 0 2) (.list (qac [.mk s [],.mk 0 zs])):=
 .slL hb hd rfl rfl rfl rfl rfl (.cons (.same rfl) (.cons (.same rfl) (.cons (.same rfl) (.cons h .nil))))
abbrev abH (m:Md)(d:Dk)(s:Int)(ks:List V)(k0 s0:Int)(rs:List Int)(ps:List Ty):List (Nat×Slot):=[(99999,dkB d),(0,sM m),(1,vB 0 (.list (qac [.mk s [],.mk 0 ks]))),(2,vB 0 .nil),(102,tyB k0 s0 rs ps)]
def dX (ks:List V):List (Nat×Slot):=match ks with
 | []=>[(409,.dead),(403,.dead),(419,.dead)]
 | _::_=>[(409,.dead),(403,.dead),(419,.dead),(410,.dead)]
def dW (ks xs:List V):List (Nat×Slot):=match ks,xs with
 | [],_::_=>[(1315,.dead)]
 | _,_=>[]
set_option maxHeartbeats 20000000 in
theorem qgG {m:Md}(hk:m.kind=4∨m.kind=5)(d:Dk)(s:Int)(ks0 ks xs:List V)(hlk:ks.length≤1000000)(hl:xs.length≤1000000)(k0 s0:Int)(rs:List Int)(ps:List Ty)(k:Nat)(Q:IExit→(Nat→T)→Heap→Prop)
 (hQ:Q (.exit 2) (ofL [(0,dkR),(4,.ref 0 10 0),(5,.ref 1 2 0),(6,.ref 2 2 0),(7,.ref 102 4 0),(8,.int .i64 k),(9,.undef),(10,.ref 602 2 0),(11,.int .i64 2),(36,.bool false)]) (hpL (abH m d s ks0 k0 s0 rs ps++dX ks++[(602,vB 0 (.list (qac [.mk s [],.mk 0 (ks++xs)])))]++dW ks xs))) :
 WL Tryz.prog 130 qdk (ofL [(0,dkR),(4,.ref 0 10 0),(5,.ref 1 2 0),(6,.ref 2 2 0),(7,.ref 102 4 0),(8,.int .i64 k),(9,.ref 403 2 0),(10,.ref 602 2 0),(11,.int .i64 1)])
  (hpL (abH m d s ks0 k0 s0 rs ps++[(409,rB [.int .i64 s,.list [],.int .i64 0,.list (qac xs)]),(403,vB 0 (.sl 409 4 2 0 2)),(419,rB [.int .i64 s,.list [],.int .i64 0,bagT ks])]++bagH ks++[(602,vB 0 (.sl 419 4 2 0 2))])) Q:=by
 have hmc:∀D,clL D (mdC m)=true:=fun D=>by simp
 have hmo:=qco m
 have hk1:(m.kind==1)=false:=by simp;omega
 have hk6:(m.kind==6)=false:=by simp;omega
 have hk2:(m.kind==2)=false:=by simp;omega
 have hk3:(m.kind==3)=false:=by simp;omega
 have d1:decide ((1:Int)<((2:Nat):Int))=true:=rfl
 have d2:decide ((2:Int)<((2:Nat):Int))=false:=rfl
 have w1:IntKind.wrap .i64 ((1:Int)+1)=2:=rfl
 have hlx:(qac xs).length=xs.length:=qag xs
 have hl2:∀zs:List V,(qac [.mk s [],.mk 0 zs]).length=2:=fun zs=>rfl
 rcases ks with _ | ⟨u,ks⟩
 ·rcases xs with _ | ⟨x,xs⟩
  ·skip
   simp only[abH,bagT,bagH,dX,dW,List.cons_append,List.nil_append,List.append_nil] at hQ ⊢
   have h2:WL Tryz.prog 130 qdk (ofL [(0,dkR),(4,.ref 0 10 0),(5,.ref 1 2 0),(6,.ref 2 2 0),(7,.ref 102 4 0),(8,.int .i64 k),(9,.undef),(10,.ref 602 2 0),(11,.int .i64 2)]) (hpL [(99999,dkB d),(0,sM m),(1,vB 0 (.list (qac [.mk s [],.mk 0 ks0]))),(2,vB 0 .nil),(102,tyB k0 s0 rs ps),(409,.dead),(403,.dead),(419,.dead),(602,vB 0 (.list (qac [.mk s [],.mk 0 ([])])))]) Q:=by
    have fX:=(cJ2 @hl2 @d2)
    refine qaa qdk.eq_1 ?_
    refine wR0 800 [0,4,5,6,7,8,9,10,11,36] fX ?_
    refine wF @d2 ?_
    refine wX ?_
    refine wN ?_
    exact hQ
   have fX:=(cJ8 @d1 @w1 @hk1 @hk6 @hk2 @hk3 @mdC.eq_1 @hlx)
   refine qaa qdk.eq_1 ?_
   refine wR0 800 [0,4,5,6,7,8,9,10,11,36] fX ?_
   refine wT fX ?_
   refine wR0 900 [0,4,5,6,7,8,9,10,11,57] fX ?_
   refine wF (cJ2 @hk1 @hk6) ?_
   refine wR0 1100 [0,4,5,6,7,8,9,10,11,85] fX ?_
   refine wF (cJ2 @hk2 @hk3) ?_
   refine wR0 1300 [0,4,5,6,7,8,9,10,11] fX ?_
   simp only[thn,inB]
   refine qbW (l':=[(0,dkR),(4,.ref 0 10 0),(5,.ref 1 2 0),(6,.ref 2 2 0),(7,.ref 102 4 0),(8,.int .i64 k),(9,.undef),(10,.ref 602 2 0),(11,.int .i64 1)]) (hl':=[(99999,dkB d),(0,sM m),(1,vB 0 (.list (qac [.mk s [],.mk 0 ks0]))),(2,vB 0 .nil),(102,tyB k0 s0 rs ps),(409,.dead),(403,.dead),(419,.dead),(602,vB 0 (.list (qac [.mk s [],.mk 0 ([])])))]) [99999,0,1,2,102,602] (.cons (.same rfl) (.cons (.same rfl) (.cons (.same rfl) (.cons (.same rfl) (.cons (.same rfl) (.cons (.same rfl) (.drop (.cons (.same rfl) (.cons (.same rfl) .nil))))))))) (.keep rfl (qaT _) (.keep rfl (.liveS (hmc _) hmo) (.keep rfl (.liveA (by simp[T.cl,clL]) rfl) (.keep rfl (.liveA rfl rfl) (.keep rfl (.liveA (by simp[T.cl,clL]) rfl) (.dead rfl (fun h=>by cases h) (.dead rfl (fun h=>by cases h) (.dead rfl (fun h=>by cases h) (.keep rfl (.liveL (.cons (.same rfl) (.cons (qm7 (zs:=[]) rfl rfl .nil) .nil)) rfl) .nil))))))))) ?_
   refine wR0 1400 [0,4,5,6,7,8,9,10,11] fX ?_
   refine wN ?_
   exact h2
  ·have hfl:flat (qac (x::xs))=qaq (x::xs):=(qbr _).symm
   simp only[abH,bagT,bagH,dX,dW,List.cons_append,List.nil_append,List.append_nil] at hQ ⊢
   have h2:WL Tryz.prog 130 qdk (ofL [(0,dkR),(4,.ref 0 10 0),(5,.ref 1 2 0),(6,.ref 2 2 0),(7,.ref 102 4 0),(8,.int .i64 k),(9,.undef),(10,.ref 602 2 0),(11,.int .i64 2)]) (hpL [(99999,dkB d),(0,sM m),(1,vB 0 (.list (qac [.mk s [],.mk 0 ks0]))),(2,vB 0 .nil),(102,tyB k0 s0 rs ps),(409,.dead),(403,.dead),(419,.dead),(602,vB 0 (.list (qac [.mk s [],.mk 0 (x::xs)]))),(1315,.dead)]) Q:=by
    have fX:=(cJ2 @hl2 @d2)
    refine qaa qdk.eq_1 ?_
    refine wR0 800 [0,4,5,6,7,8,9,10,11,36] fX ?_
    refine wF @d2 ?_
    refine wX ?_
    refine wN ?_
    exact hQ
   have fX:=(cJ8 @d1 @w1 @hk1 @hk6 @hk2 @hk3 @mdC.eq_1 (cJ2 @hlx @hfl))
   refine qaa qdk.eq_1 ?_
   refine wR0 800 [0,4,5,6,7,8,9,10,11,36] fX ?_
   refine wT fX ?_
   refine wR0 900 [0,4,5,6,7,8,9,10,11,57] fX ?_
   refine wF (cJ2 @hk1 @hk6) ?_
   refine wR0 1100 [0,4,5,6,7,8,9,10,11,85] fX ?_
   refine wF (cJ2 @hk2 @hk3) ?_
   refine wR0 1300 [0,4,5,6,7,8,9,10,11] fX ?_
   simp only[thn,inB]
   refine qbW (l':=[(0,dkR),(4,.ref 0 10 0),(5,.ref 1 2 0),(6,.ref 2 2 0),(7,.ref 102 4 0),(8,.int .i64 k),(9,.undef),(10,.ref 602 2 0),(11,.int .i64 1)]) (hl':=[(99999,dkB d),(0,sM m),(1,vB 0 (.list (qac [.mk s [],.mk 0 ks0]))),(2,vB 0 .nil),(102,tyB k0 s0 rs ps),(409,.dead),(403,.dead),(419,.dead),(602,vB 0 (.list (qac [.mk s [],.mk 0 (x::xs)]))),(1315,.dead)]) [99999,0,1,2,102,602] (.cons (.same rfl) (.cons (.same rfl) (.cons (.same rfl) (.cons (.same rfl) (.cons (.same rfl) (.cons (.same rfl) (.drop (.cons (.same rfl) (.cons (.same rfl) .nil))))))))) (.keep rfl (qaT _) (.keep rfl (.liveS (hmc _) hmo) (.keep rfl (.liveA (by simp[T.cl,clL]) rfl) (.keep rfl (.liveA rfl rfl) (.keep rfl (.liveA (by simp[T.cl,clL]) rfl) (.dead rfl (fun h=>by cases h) (.dead rfl (fun h=>by cases h) (.dead rfl (fun h=>by cases h) (.keep rfl (.liveL (.cons (.same rfl) (.cons (qm7 (zs:=x::xs) rfl rfl (qlX (x::xs) rfl rfl rfl (qaz _))) .nil)) rfl) (.dead rfl (fun h=>by cases h) .nil)))))))))) ?_
   refine wR0 1400 [0,4,5,6,7,8,9,10,11] fX ?_
   refine wN ?_
   exact h2
 ·rcases xs with _ | ⟨x,xs⟩
  ·skip
   simp only[abH,bagT,bagH,dX,dW,List.cons_append,List.nil_append,List.append_nil] at hQ ⊢
   have h2:WL Tryz.prog 130 qdk (ofL [(0,dkR),(4,.ref 0 10 0),(5,.ref 1 2 0),(6,.ref 2 2 0),(7,.ref 102 4 0),(8,.int .i64 k),(9,.undef),(10,.ref 602 2 0),(11,.int .i64 2)]) (hpL [(99999,dkB d),(0,sM m),(1,vB 0 (.list (qac [.mk s [],.mk 0 ks0]))),(2,vB 0 .nil),(102,tyB k0 s0 rs ps),(409,.dead),(403,.dead),(419,.dead),(410,.dead),(602,vB 0 (.list (qac [.mk s [],.mk 0 (u::ks)])))]) Q:=by
    have fX:=(cJ2 @hl2 @d2)
    refine qaa qdk.eq_1 ?_
    refine wR0 800 [0,4,5,6,7,8,9,10,11,36] fX ?_
    refine wF @d2 ?_
    refine wX ?_
    refine wN ?_
    exact hQ
   have fX:=(cJ8 @d1 @w1 @hk1 @hk6 @hk2 @hk3 @mdC.eq_1 @hlx)
   refine qaa qdk.eq_1 ?_
   refine wR0 800 [0,4,5,6,7,8,9,10,11,36] fX ?_
   refine wT fX ?_
   refine wR0 900 [0,4,5,6,7,8,9,10,11,57] fX ?_
   refine wF (cJ2 @hk1 @hk6) ?_
   refine wR0 1100 [0,4,5,6,7,8,9,10,11,85] fX ?_
   refine wF (cJ2 @hk2 @hk3) ?_
   refine wR0 1300 [0,4,5,6,7,8,9,10,11] fX ?_
   simp only[thn,inB]
   refine qbW (l':=[(0,dkR),(4,.ref 0 10 0),(5,.ref 1 2 0),(6,.ref 2 2 0),(7,.ref 102 4 0),(8,.int .i64 k),(9,.undef),(10,.ref 602 2 0),(11,.int .i64 1)]) (hl':=[(99999,dkB d),(0,sM m),(1,vB 0 (.list (qac [.mk s [],.mk 0 ks0]))),(2,vB 0 .nil),(102,tyB k0 s0 rs ps),(409,.dead),(403,.dead),(419,.dead),(410,.dead),(602,vB 0 (.list (qac [.mk s [],.mk 0 (u::ks)])))]) [99999,0,1,2,102,602] (.cons (.same rfl) (.cons (.same rfl) (.cons (.same rfl) (.cons (.same rfl) (.cons (.same rfl) (.cons (.same rfl) (.drop (.cons (.same rfl) (.cons (.same rfl) .nil))))))))) (.keep rfl (qaT _) (.keep rfl (.liveS (hmc _) hmo) (.keep rfl (.liveA (by simp[T.cl,clL]) rfl) (.keep rfl (.liveA rfl rfl) (.keep rfl (.liveA (by simp[T.cl,clL]) rfl) (.dead rfl (fun h=>by cases h) (.dead rfl (fun h=>by cases h) (.dead rfl (fun h=>by cases h) (.dead rfl (fun h=>by cases h) (.keep rfl (.liveL (.cons (.same rfl) (.cons (qm7 (zs:=u::ks) rfl rfl (qlX (u::ks) rfl rfl rfl rfl)) .nil)) rfl) .nil)))))))))) ?_
   refine wR0 1400 [0,4,5,6,7,8,9,10,11] fX ?_
   refine wN ?_
   exact h2
  ·have hlk':ks.length+1≤1000000:=by simpa using hlk
   have hfe:flat (qac (x::xs))=qaq (x::xs):=(qbr _).symm
   have hfl:qaq (u::ks)++qaq (x::xs)=qaq (u::(ks++x::xs)):=by rw[←qa8];rfl
   simp only[abH,bagT,bagH,dX,dW,List.cons_append,List.nil_append,List.append_nil] at hQ ⊢
   have h2:WL Tryz.prog 130 qdk (ofL [(0,dkR),(4,.ref 0 10 0),(5,.ref 1 2 0),(6,.ref 2 2 0),(7,.ref 102 4 0),(8,.int .i64 k),(9,.undef),(10,.ref 602 2 0),(11,.int .i64 2)]) (hpL [(99999,dkB d),(0,sM m),(1,vB 0 (.list (qac [.mk s [],.mk 0 ks0]))),(2,vB 0 .nil),(102,tyB k0 s0 rs ps),(409,.dead),(403,.dead),(419,.dead),(410,.dead),(602,vB 0 (.list (qac [.mk s [],.mk 0 (u::(ks++x::xs))])))]) Q:=by
    have fX:=(cJ2 @hl2 @d2)
    refine qaa qdk.eq_1 ?_
    refine wR0 800 [0,4,5,6,7,8,9,10,11,36] fX ?_
    refine wF @d2 ?_
    refine wX ?_
    refine wN ?_
    exact hQ
   have fX:=(cJ8 @d1 @w1 @hk1 @hk6 @hk2 @hk3 @mdC.eq_1 (cJ4 @hlx @hfe @hfl @qaz))
   refine qaa qdk.eq_1 ?_
   refine wR0 800 [0,4,5,6,7,8,9,10,11,36] fX ?_
   refine wT fX ?_
   refine wR0 900 [0,4,5,6,7,8,9,10,11,57] fX ?_
   refine wF (cJ2 @hk1 @hk6) ?_
   refine wR0 1100 [0,4,5,6,7,8,9,10,11,85] fX ?_
   refine wF (cJ2 @hk2 @hk3) ?_
   refine wR0 1300 [0,4,5,6,7,8,9,10,11] fX ?_
   simp only[thn,inB]
   refine qbW (l':=[(0,dkR),(4,.ref 0 10 0),(5,.ref 1 2 0),(6,.ref 2 2 0),(7,.ref 102 4 0),(8,.int .i64 k),(9,.undef),(10,.ref 602 2 0),(11,.int .i64 1)]) (hl':=[(99999,dkB d),(0,sM m),(1,vB 0 (.list (qac [.mk s [],.mk 0 ks0]))),(2,vB 0 .nil),(102,tyB k0 s0 rs ps),(409,.dead),(403,.dead),(419,.dead),(410,.dead),(602,vB 0 (.list (qac [.mk s [],.mk 0 (u::(ks++x::xs))])))]) [99999,0,1,2,102,602] (.cons (.same rfl) (.cons (.same rfl) (.cons (.same rfl) (.cons (.same rfl) (.cons (.same rfl) (.cons (.same rfl) (.drop (.cons (.same rfl) (.cons (.same rfl) .nil))))))))) (.keep rfl (qaT _) (.keep rfl (.liveS (hmc _) hmo) (.keep rfl (.liveA (by simp[T.cl,clL]) rfl) (.keep rfl (.liveA rfl rfl) (.keep rfl (.liveA (by simp[T.cl,clL]) rfl) (.dead rfl (fun h=>by cases h) (.dead rfl (fun h=>by cases h) (.dead rfl (fun h=>by cases h) (.dead rfl (fun h=>by cases h) (.keep rfl (.liveL (.cons (.same rfl) (.cons (qm7 (zs:=u::(ks++x::xs)) rfl rfl (qlX (u::(ks++x::xs)) rfl rfl (by simp;omega) (by simp;omega))) .nil)) rfl) .nil)))))))))) ?_
   refine wR0 1400 [0,4,5,6,7,8,9,10,11] fX ?_
   refine wN ?_
   exact h2
end
end Go.Proofs.YtpplncjaihgimaaGreat
