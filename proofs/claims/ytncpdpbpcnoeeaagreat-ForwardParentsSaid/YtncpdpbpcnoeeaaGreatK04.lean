/- Contracts of functions of the program, for all arguments that they name. -/
import Derived.Test.YtncpdpbpcnoeeaaGreatK02
import Derived.Test.YtncpdpbpcnoeeaaGreatK03
namespace Go.Proofs.YtncpdpbpcnoeeaaGreat
set_option linter.unusedVariables false
section
open Go.RowKit
inductive V where
 | mk (n:Int) (ks:List V)
instance:Inhabited V:=⟨.mk 0 []⟩
def V.n:V→Int | .mk n _=>n
def V.kids:V→List V | .mk _ ks=>ks
mutual
def encV:V→T
 | .mk n ks=>.agg [.int .i64 n,.list (qaj ks)]
def qaj:List V→List T
 | []=>[]
 | k::ks=>encV k::qaj ks
end
theorem qcp:∀ks,qaj ks=ks.map encV
 | []=>rfl
 | k::ks=>by simp[qaj,qcp ks]
theorem qat (ks:List V):(qaj ks).length=ks.length:=by rw[qcp,List.length_map]
theorem qbT (pre:List V)(k:V)(ks:List V):(qaj (pre++k::ks)).getD pre.length .undef=encV k:=by
 rw[qcp];simp[List.getD_eq_getElem?_getD]
theorem qht (v:V):(encV v).cells.length=2:=by cases v;rfl
theorem qpx (v:V):encV v=.agg [.int .i64 v.n,.list (qaj v.kids)]:=by cases v;rfl
theorem qkt (v:V):(encV v).cells=[.int .i64 v.n,.list (qaj v.kids)]:=by cases v;rfl
mutual
theorem qbS (D:Nat→Bool):∀v:V,(encV v).cl D=true
 | .mk n ks=>by simp[encV,T.cl,clL,qaz D ks]
theorem qaz (D:Nat→Bool):∀ks:List V,clL D (qaj ks)=true
 | []=>rfl
 | k::ks=>by simp[qaj,clL,qbS D k,qaz D ks]
end
theorem qiz (ks:List V):sizedB 2 (qaj ks)=true:=by
 rw[qcp,sizedB,List.all_eq_true]
 intro x hx
 obtain⟨v,_,rfl⟩:=List.mem_map.1 hx
 simp[qht,esz]
mutual
def V.fit:V→Prop
 | .mk _ ks=>ks.length≤1000000∧fitL ks
def fitL:List V→Prop
 | []=>True
 | k::ks=>k.fit∧fitL ks
end
theorem qjn:∀ {ks:List V},fitL ks→∀k∈ks,k.fit
 | [],_,k,hk=>by cases hk
 | x::ks,h,k,hk=>by
  simp only[fitL] at h
  rcases List.mem_cons.1 hk with rfl | hk
  ·exact h.1
  ·exact qjn h.2 k hk
theorem qlO:∀ {ks:List V},(∀k∈ks,k.fit)→fitL ks
 | [],_=>trivial
 | x::ks,h=>⟨h x (List.mem_cons_self ..),qlO fun k hk=>h k (List.mem_cons_of_mem _ hk)⟩
theorem V.fit_kids {v:V}(h:v.fit):v.kids.length≤1000000∧∀k∈v.kids,k.fit:=by
 cases v;simp only[V.fit] at h;exact⟨h.1,qjn h.2⟩
theorem wrap64 {n:Int}(h1:-9223372036854775808≤n)(h2:n≤9223372036854775807):IntKind.wrap .i64 n=n:=by rw[IntKind.wrap_i64];omega
end
section
open Go.RowKit
set_option maxHeartbeats 2000000
def ordI (a b:Int):Int:=if a<b then -1 else if b<a then 1 else 0
mutual
def cmpV:V→V→Int
 | .mk a ks,.mk b ls=>if a≠b then ordI a b else if ks.length≠ls.length then ordI ks.length ls.length else cmpL ks ls
def cmpL:List V→List V→Int
 | k::ks,l::ls=>if cmpV k l≠0 then cmpV k l else cmpL ks ls
 | _,_=>0
end
theorem qgS {k:V}{ks:List V}(h:k∈ks)(n:Int):SizeOf.sizeOf k<SizeOf.sizeOf (V.mk n ks):=by
 have:=List.sizeOf_lt_of_mem h
 simp only[V.mk.sizeOf_spec];omega
mutual
def qcU:V→Int→Int
 | .mk _ ks,most=>qfM ks 1 most
def qfM:List V→Int→Int→Int
 | [],n,_=>n
 | k::ks,n,most=>if n≤most then qfM ks (n+qcU k (most - n)) most else n
end
mutual
theorem size_le:∀(v:V) (most:Int),0≤most→1≤qcU v most∧qcU v most≤most+1
 | .mk n ks,most,h=>by
  have:=qj8 ks 1 most (by omega) (by omega)
  simp only[qcU];omega
theorem qj8:∀(ks:List V) (n most:Int),1≤n→n≤most+1→n≤qfM ks n most∧qfM ks n most≤most+1
 | [],n,most,h1,h2=>by simp only[qfM];omega
 | k::ks,n,most,h1,h2=>by
  simp only[qfM]
  split
  ·have:=size_le k (most - n) (by omega)
   have:=qj8 ks (n+qcU k (most - n)) most (by omega) (by omega)
   omega
  ·omega
end
def qgC:List V→List T
 | []=>[]
 | k::ks=>.int .i64 k.n::.list (qaj k.kids)::qgC ks
theorem qej:∀ks:List V,qgC ks=flat (qaj ks)
 | []=>rfl
 | k::ks=>by rw[qaj,qa2,qkt,qgC,qej ks];rfl
theorem qjo (D:Nat→Bool):∀ks:List V,clL D (qgC ks)=true
 | []=>rfl
 | k::ks=>by simp[qgC,clL,T.cl,qaz,qjo D ks]
theorem qf7:∀ks:List V,Ones (qgC ks)
 | []=>fun c hc=>by cases hc
 | k::ks=>fun c hc=>by
  simp only[qgC,List.mem_cons] at hc
  rcases hc with rfl | rfl | hc
  ·rfl
  ·rfl
  ·exact qf7 ks c hc
theorem qhu (ks:List V):qbL (esz 2) (qaj ks):=fun x hx=>by
 rw[qcp] at hx
 obtain⟨v,_,rfl⟩:=List.mem_map.1 hx
 exact qht v
end
section
open Go.RowKit
set_option maxHeartbeats 2000000
def qab (l:List Int):List T:=l.map (.int .i64)
theorem qac (l:List Int):(qab l).length=l.length:=by simp[qab]
theorem qc0 (pre:List Int)(k:Int)(ks:List Int):(qab (pre++k::ks)).getD pre.length .undef=.int .i64 k:=by
 simp[qab,List.getD_eq_getElem?_getD]
theorem qae (D:Nat→Bool)(l:List Int):clL D (qab l)=true:=by
 induction l with
 | nil=>rfl
 | cons x l ih=>simpa [qab,clL,T.cl] using ih
inductive Ty where
 | mk (k s:Int) (rs:List Int) (ps:List Ty)
instance:Inhabited Ty:=⟨.mk 0 0 [] []⟩
def Ty.k:Ty→Int | .mk k _ _ _=>k
def Ty.s:Ty→Int | .mk _ s _ _=>s
def Ty.rs:Ty→List Int | .mk _ _ rs _=>rs
def Ty.ps:Ty→List Ty | .mk _ _ _ ps=>ps
mutual
def qaw:Ty→T
 | .mk k s rs ps=>.agg [.int .i64 k,.int .i64 s,.list (qab rs),.list (qal ps)]
def qal:List Ty→List T
 | []=>[]
 | p::ps=>qaw p::qal ps
end
theorem qco:∀ps,qal ps=ps.map qaw
 | []=>rfl
 | k::ps=>by simp[qal,qco ps]
theorem qav (ps:List Ty):(qal ps).length=ps.length:=by rw[qco,List.length_map]
theorem qf4 (pre:List Ty)(k:Ty)(ps:List Ty):(qal (pre++k::ps)).getD pre.length .undef=qaw k:=by
 rw[qco];simp[List.getD_eq_getElem?_getD]
theorem qks (v:Ty):(qaw v).cells.length=4:=by cases v;rfl
mutual
theorem qjm (D:Nat→Bool):∀v:Ty,(qaw v).cl D=true
 | .mk k s rs ps=>by simp[qaw,T.cl,clL,qae,qdQ D ps]
theorem qdQ (D:Nat→Bool):∀ps:List Ty,clL D (qal ps)=true
 | []=>rfl
 | p::ps=>by simp[qal,clL,qjm D p,qdQ D ps]
end
attribute [simp] qbS qaz qae qjm qdQ
theorem qnf {p:Ty}{ps:List Ty}(h:p∈ps)(k s:Int)(rs:List Int):SizeOf.sizeOf p<SizeOf.sizeOf (Ty.mk k s rs ps):=by
 have:=List.sizeOf_lt_of_mem h
 simp only[Ty.mk.sizeOf_spec];omega
mutual
def qjP (n:Int):V→Bool
 | .mk a ks=>qjO n ks&&(decide (a≥0)&&decide (a<n))
def qjO (n:Int):List V→Bool
 | []=>true
 | k::ks=>qjP n k&&qjO n ks
end
def qg0 (x:Int):Bool:=decide (x<0) || decide (x≥6)
def qfG (l:List Int):Bool:=!l.any qg0&&(decide ((l.length:Int)≥1)&&decide ((l.length:Int)≤6))
end
section
open Go.RowKit
set_option maxHeartbeats 2000000
theorem qad {H:Heap}{b c:Bool}(h:b=c):Frz H (.bool b) (.bool c):=h▸.same rfl
theorem qaB {H:Heap}{b c:Int}(h:b=c):Frz H (.int .i64 b) (.int .i64 c):=h▸.same rfl
mutual
def Ty.fit:Ty→Prop
 | .mk _ _ rs ps=>rs.length≤1000000∧ps.length≤1000000∧qdy ps
def qdy:List Ty→Prop
 | []=>True
 | p::ps=>p.fit∧qdy ps
end
theorem qhx:∀ {ps:List Ty},qdy ps→∀k∈ps,k.fit
 | [],_,k,hk=>by cases hk
 | x::ps,h,k,hk=>by
  simp only[qdy] at h
  rcases List.mem_cons.1 hk with rfl | hk
  ·exact h.1
  ·exact qhx h.2 k hk
theorem Ty.fit_all {k s:Int}{rs:List Int}{ps:List Ty}(h:(Ty.mk k s rs ps).fit):rs.length≤1000000∧ps.length≤1000000∧∀p∈ps,p.fit:=by
 simp only[Ty.fit] at h;exact⟨h.1,h.2.1,qhx h.2.2⟩
mutual
def qaJ:Ty→Int→Bool
 | .mk k s rs ps,d=>
  if d=0 then false else if 0<rs.length∧k≠7 then false
  else if k=1 then (s==0)&&((ps.length:Int)==0)
  else if k=2∨k=6 then decide (s≥1)&&decide (s≤16)&&((ps.length:Int)==0)
  else if k=7 then decide (s≥1)&&decide (s≤6)&&((ps.length:Int)==0)&&((rs.length:Int)==s)&&qfG rs
  else if k=4∨k=5 then (s==0)&&((ps.length:Int)==1)&&qa9 ps (d - 1)
  else if k=3 then (s==0)&&!decide ((ps.length:Int)<1)&&!decide ((ps.length:Int) > 8)&&qa9 ps (d - 1)
  else false
def qa9:List Ty→Int→Bool
 | [],_=>true
 | p::ps,d=>qaJ p d&&qa9 ps d
end
def qcX (t:Ty):Int:=if qaJ t 8 then 0 else 6
def qdJ (s:Int)(x:V):Bool:=decide (x.n<0) || decide (x.n≥s) || decide ((x.kids.length:Int) > 0)
def qb3:List V→Bool
 | a::b::l=>!decide (cmpV a b > 0)&&qb3 (b::l)
 | _=>true
mutual
def ofV:Ty→V→Bool
 | .mk k s rs ps,v=>
  if k=1 then decide (v.n≥0)&&decide (v.n≤1048576)&&((v.kids.length:Int)==0)
  else if k=2 then decide (v.n≥0)&&decide (v.n<s)&&((v.kids.length:Int)==0)
  else if k=6 then decide (qcU v 12≤12)&&qjP s v
  else if k=3 then (v.n==0)&&((v.kids.length:Int)==ps.length)&&qfR ps v.kids
  else (v.n==0)&&!decide ((v.kids.length:Int) > 12)&&(if k=7 then !v.kids.any (qdJ s) else qjQ ps v.kids&&(!(k==5) || qb3 v.kids))
def qfR:List Ty→List V→Bool
 | p::ps,v::vs=>ofV p v&&qfR ps vs
 | _,_=>true
def qjQ:List Ty→List V→Bool
 | p::_,vs=>vs.all fun v=>ofV p v
 | [],_=>true
end
theorem qeC:∀ {ps:List Ty} {d:Int},qa9 ps d=true→∀p∈ps,qaJ p d=true
 | [],_,_,p,hp=>by cases hp
 | x::ps,d,h,p,hp=>by
  simp only[qa9,Bool.and_eq_true] at h
  rcases List.mem_cons.1 hp with rfl | hp
  ·exact h.1
  ·exact qeC h.2 p hp
theorem qk8 {s d:Int}{rs:List Int}{ps:List Ty}(h:qaJ (.mk 3 s rs ps) d=true):qa9 ps (d - 1)=true∧ps.length≤8:=by
 simp only[qaJ] at h
 split at h
 ·cases h
 split at h
 ·cases h
 simp at h
 exact⟨h.2,by omega⟩
theorem qgo {k s d:Int}{rs:List Int}{ps:List Ty}(hk:k=4∨k=5)(h:qaJ (.mk k s rs ps) d=true):∃p,ps=[p]∧qaJ p (d - 1)=true:=by
 simp only[qaJ] at h
 rw[if_neg (show ¬k=1 by omega),if_neg (show ¬(k=2∨k=6) by omega),if_neg (show ¬k=7 by omega),if_pos hk] at h
 split at h
 ·cases h
 split at h
 ·cases h
 simp at h
 obtain⟨p,rfl⟩:=List.length_eq_one_iff.1 (show ps.length=1 by omega)
 exact⟨p,rfl,by simpa [qa9] using h.2⟩
theorem qk7 {k s d:Int}{rs:List Int}{ps:List Ty}(h:qaJ (.mk k s rs ps) d=true)(h1:k≠1)(h2:k≠2)(h6:k≠6)(h3:k≠3):k=7∨k=4∨k=5:=by
 refine Decidable.byContradiction fun hc=>?_
 have h26:¬(k=2∨k=6):=by omega
 have h45:¬(k=4∨k=5):=by omega
 have h7:¬k=7:=by omega
 simp only[qaJ,if_neg h1,if_neg h26,if_neg h7,if_neg h45,if_neg h3] at h
 split at h<;>simp at h
def qgn (t:Ty)(v:V):Bool:=(qcX t==0)&&decide (qcU v 128≤128)&&ofV t v
theorem qll {t:Ty}:(qcX t==0)=qaJ t 8:=by unfold qcX;cases qaJ t 8<;>rfl
def insR (x:V):List V→List V
 | []=>[x]
 | y::ys=>if cmpV x y<0 then y::insR x ys else x::y::ys
def qhQ (acc l:List V):List V:=l.foldl (fun acc x=>insR x acc) acc
theorem qfr (acc l:List V)(x:V):qhQ acc (x::l)=qhQ (insR x acc) l:=rfl
def v0:V:=.mk 0 []
end
end Go.Proofs.YtncpdpbpcnoeeaaGreat
