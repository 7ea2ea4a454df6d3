/- Contracts of functions of the program, for all arguments that they name. -/
import Derived.Test.YtpplncjaihgimaaGreatK08
import Derived.Test.YtpplncjaihgimaaGreatK19
import Derived.Test.YtpplncjaihgimaaGreatK20
import Derived.Test.YtpplncjaihgimaaGreatK21b
namespace Go.Proofs.YtpplncjaihgimaaGreat
set_option linter.unusedVariables false
section
open Go.RowKit
set_option maxHeartbeats 2000000
def tyD:Ty:=.mk 0 0 [] []
mutual
def bel:Ty→V→V→Prop
 | .mk k s rs ps,a,b=>
  if k=1 then a.n≤b.n else if k=2 then a.n=b.n else if k=3 then belZ ps a.kids b.kids
  else ∃f:Nat→Nat,(∀i j,i<a.kids.length→j<a.kids.length→f i=f j→i=j)∧∀i,i<a.kids.length→f i<b.kids.length∧belH ps (a.kids.getD i v0) (b.kids.getD (f i) v0)
def belZ:List Ty→List V→List V→Prop
 | p::ps,x::xs,y::ys=>bel p x y∧belZ ps xs ys
 | _,_,_=>True
def belH:List Ty→V→V→Prop
 | p::_,x,y=>bel p x y
 | [],_,_=>False
end
theorem qmD:∀(ps:List Ty) (xs ys:List V),xs.length=ps.length→ys.length=ps.length→(belZ ps xs ys↔∀j,j<ps.length→bel (ps.getD j tyD) (xs.getD j v0) (ys.getD j v0))
 | [],xs,ys,_,_=>by simp[belZ]
 | p::ps,[],ys,h,_=>by simp at h
 | p::ps,x::xs,[],_,h=>by simp at h
 | p::ps,x::xs,y::ys,h1,h2=>by
  rw[belZ,qmD ps xs ys (by simpa using h1) (by simpa using h2)]
  constructor
  ·rintro ⟨a,b⟩ j hj
   cases j with
   | zero=>exact a
   | succ j=>exact b j (by simpa using hj)
  ·intro h
   exact⟨h 0 (by simp),fun j hj=>h (j+1) (by simpa using hj)⟩
theorem qkU {α β:Type}(g:α→β):∀ {l:List α},(l.map g).Nodup→∀x∈l,∀y∈l,g x=g y→x=y
 | [],_=>fun x hx=>by cases hx
 | z::l,h=>fun x hx y hy=>by
  rw[List.map_cons,List.nodup_cons] at h
  intro e
  rcases List.mem_cons.1 hx with rfl | hx2
  ·rcases List.mem_cons.1 hy with rfl | hy2
   ·rfl
   ·exact absurd (List.mem_map.2 ⟨y,hy2,e.symm⟩) h.1
  ·rcases List.mem_cons.1 hy with rfl | hy2
   ·exact absurd (List.mem_map.2 ⟨x,hx2,e⟩) h.1
   ·exact qkU g h.2 x hx2 y hy2 e
theorem qqG {E:Nat→Nat→Bool}{m n k:Nat}(h:qpt E m noB 0 n k):k=n↔∃f:Nat→Nat,(∀i j,i<n→j<n→f i=f j→i=j)∧∀i,i<n→f i<m∧E i (f i)=true:=by
 obtain⟨⟨M,hM,hMl⟩,hC⟩:=h
 obtain⟨m1,m2,m3⟩:=hM
 constructor
 ·intro hk
  have hex:∀i:Nat,∃c:Nat,i<n→(i,c)∈M:=fun i=>by
   by_cases hi:i<n
   ·by_cases hin:i∈M.map (·.1)
    ·obtain⟨p,hp,e⟩:=List.mem_map.1 hin
     exact⟨p.2,fun _=>by rw[←e];exact hp⟩
    ·have h1:(i::M.map (·.1)).Nodup:=List.nodup_cons.2 ⟨hin,m1⟩
     have h2:=qeY h1 (l':=List.range n) (fun x hx=>by
      rcases List.mem_cons.1 hx with rfl | hx
      ·exact List.mem_range.2 hi
      ·obtain⟨p,hp,rfl⟩:=List.mem_map.1 hx
       exact List.mem_range.2 (m3 p hp).2.1)
     simp at h2
     omega
   ·exact⟨0,fun h=>absurd h hi⟩
  obtain⟨f,hf⟩:=Classical.axiomOfChoice hex
  refine⟨f,fun i j hi hj e=>?_,fun i hi=>?_⟩
  ·have:=qkU (·.2) m2 (i,f i) (hf i hi) (j,f j) (hf j hj) e
   exact congrArg Prod.fst this
  ·have:=m3 _ (hf i hi)
   exact⟨this.2.2.1,this.2.2.2.1⟩
 ·rintro ⟨f,h1,h2⟩
  have hle:k≤n:=by
   have h3:=qeY m1 (l':=List.range n) (fun x hx=>by
    obtain⟨p,hp,rfl⟩:=List.mem_map.1 hx
    exact List.mem_range.2 (m3 p hp).2.1)
   simp at h3
   omega
  have hmat:Mat E m noB 0 n ((List.range n).map fun i=>(i,f i)):=by
   refine⟨?_,?_,fun p hp=>?_⟩
   ·rw[List.map_map]
    simpa [Function.comp_def] using List.nodup_range (n:=n)
   ·rw[List.map_map]
    exact qfS List.nodup_range (fun x hx y hy e=>h1 x y (List.mem_range.1 hx) (List.mem_range.1 hy) e)
   ·obtain⟨i,hi,rfl⟩:=List.mem_map.1 hp
    have:=h2 i (List.mem_range.1 hi)
    exact⟨Nat.zero_le _,List.mem_range.1 hi,this.1,this.2,rfl⟩
  have:=hC.bound hmat
  simp at this
  omega
theorem qhl (ps:List Ty)(i:Nat)(h:i<ps.length):(qak ps).getD (i:Int).toNat .undef=qal (ps.getD i tyD):=by
 rw[qcX]
 simp[List.getD_eq_getElem?_getD,List.getElem?_eq_getElem h]
theorem qdw (X:List V)(i:Nat)(h:i<X.length):(qac X).getD (i:Int).toNat .undef=encV (X.getD i v0):=by
 rw[qdx]
 simp[List.getD_eq_getElem?_getD,List.getElem?_eq_getElem h]
abbrev BelC (t:Ty)(a b:V):Prop:=∃r:Bool,(r=true↔bel t a b)∧TP Tryz.prog 58 [qal t,encV a,encV b] (.bool r)
theorem qr6 (k s na nb:Int)(rs:List Int)(ps:List Ty)(xs ys:List V)(hl:ps.length≤1000000)(ha:xs.length=ps.length)(hb:ys.length=ps.length)
 (hc:∀i,i<ps.length→BelC (ps.getD i tyD) (xs.getD i v0) (ys.getD i v0)) (Q:IExit→(Nat→T)→Heap→Prop):∀(g i:Nat),i+g=ps.length→
 ((∀j,i≤j→j<ps.length→bel (ps.getD j tyD) (xs.getD j v0) (ys.getD j v0))→∀j:Int,Q (.exit 1) (ofL [(3,.ref 0 4 0),(4,.ref 1 2 0),(5,.ref 2 2 0),(7,.int .i64 j),(53,.bool false)]) (hpL [(0,.live ⟨50,[.int .i64 k,.int .i64 s,.list (qab rs),.list (qak ps)]⟩),(1,.live ⟨25,[.int .i64 na,.list (qac xs)]⟩),(2,.live ⟨25,[.int .i64 nb,.list (qac ys)]⟩)]))→
 ((∃j,i≤j∧j<ps.length∧¬bel (ps.getD j tyD) (xs.getD j v0) (ys.getD j v0))→Q .ret (ofL [(6,.bool false)]) (hpL [(0,.live ⟨50,[.int .i64 k,.int .i64 s,.list (qab rs),.list (qak ps)]⟩),(1,.live ⟨25,[.int .i64 na,.list (qac xs)]⟩),(2,.live ⟨25,[.int .i64 nb,.list (qac ys)]⟩)]))→
 WL Tryz.prog 166 qky (ofL [(3,.ref 0 4 0),(4,.ref 1 2 0),(5,.ref 2 2 0),(7,.int .i64 i)]) (hpL [(0,.live ⟨50,[.int .i64 k,.int .i64 s,.list (qab rs),.list (qak ps)]⟩),(1,.live ⟨25,[.int .i64 na,.list (qac xs)]⟩),(2,.live ⟨25,[.int .i64 nb,.list (qac ys)]⟩)]) Q:=by
 have hpl:(qak ps).length=ps.length:=qap ps
 have hal:(qac xs).length=ps.length:=by rw[qag];exact ha
 have hbl:(qac ys).length=ps.length:=by rw[qag];exact hb
 intro g
 induction g with
 | zero=>
  intro i hi hQ1 hQ2
  have hd:decide ((i:Int)<(ps.length:Int))=false:=decide_eq_false (by omega)
  have fX:=(cJ2 @hpl @hd)
  refine qaa qky.eq_1 ?_
  refine wR0 1200 [3,4,5,7,53] fX ?_
  refine wF fX ?_
  refine wX ?_
  refine wN ?_
  exact hQ1 (fun j h1 h2=>by omega) _
 | succ g ih=>
  intro i hi hQ1 hQ2
  have hd:decide ((i:Int)<(ps.length:Int))=true:=decide_eq_true (by omega)
  have hw:IntKind.wrap .i64 ((i:Int)+1)=((i+1:Nat):Int):=by rw[wrap64 (by omega) (by omega)];rfl
  have hib:(i:Int)<(ps.length:Int):=by omega
  obtain⟨r,hr,hcall⟩:=hc i (by omega)
  have g1:=qhl ps i (by omega)
  have g2:=qdw xs i (by omega)
  have g3:=qdw ys i (by omega)
  rcases hp:ps.getD i tyD with⟨pk,p2,p3,p4⟩
  rcases hx:xs.getD i v0 with⟨x1,x2⟩
  rcases hy:ys.getD i v0 with⟨y1,y2⟩
  rw[hp,hx,hy] at hcall
  rw[hp] at g1
  rw[hx] at g2
  rw[hy] at g3
  simp only[qal,encV] at g1 g2 g3 hcall
  rcases r with _ | _
  ·have hQ:=hQ2 ⟨i,Nat.le_refl _,by omega,fun h=>by have:=hr.2 h;cases this⟩
   have fX:=(cJ7 @hpl @hal @hbl @hd @g1 @g2 @g3)
   refine qaa qky.eq_1 ?_
   refine wR0 1200 [3,4,5,7,53] fX ?_
   refine wT fX ?_
   refine wRn 1300 [3,4,5,7,72] fX ?_
   refine rC fX ?_
   refine⟨_,hcall,rE fX ?_⟩
   refine wT fX ?_
   refine wR0 1400 [6] fX ?_
   refine wE ?_
   refine wN ?_
   exact hQ
  ·have hb1:=hr.1 rfl
   have hQ:=ih (i+1) (by omega) (fun h=>hQ1 fun j h1 h2=>by
    by_cases e:j=i
    ·rw[e];exact hb1
    ·exact h j (by omega) h2) (fun ⟨j,h1,h2,h3⟩=>hQ2 ⟨j,by omega,h2,h3⟩)
   have fX:=(cJ8 @hpl @hal @hbl @hd @g1 @g2 @g3 @hw)
   refine qaa qky.eq_1 ?_
   refine wR0 1200 [3,4,5,7,53] fX ?_
   refine wT fX ?_
   refine wRn 1300 [3,4,5,7,72] fX ?_
   refine rC fX ?_
   refine⟨_,hcall,rE fX ?_⟩
   refine wF fX ?_
   refine wR0 1500 [3,4,5,7] fX ?_
   refine wN ?_
   exact hQ
end
end Go.Proofs.YtpplncjaihgimaaGreat
