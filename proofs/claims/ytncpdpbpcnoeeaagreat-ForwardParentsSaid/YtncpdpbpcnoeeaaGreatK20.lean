/- Contracts of functions of the program, for all arguments that they name. -/
import Derived.Test.YtncpdpbpcnoeeaaGreatSorts
import Derived.Test.YtncpdpbpcnoeeaaGreatK02
import Derived.Test.YtncpdpbpcnoeeaaGreatK03
import Derived.Test.YtncpdpbpcnoeeaaGreatK04
import Derived.Test.YtncpdpbpcnoeeaaGreatK13
import Derived.Test.YtncpdpbpcnoeeaaGreatK19
namespace Go.Proofs.YtncpdpbpcnoeeaaGreat
set_option linter.unusedVariables false
section
open Go.RowKit Go.Sort Go.Shelf
set_option maxHeartbeats 2000000
structure Lm where
 st:Int
 vec:List Int
instance:Inhabited Lm:=⟨⟨0,[]⟩⟩
def Lm.fit (x:Lm):Prop:=x.vec.length≤1000000
def lmC (x:Lm):List T:=[.int .i64 x.st,.list (qab x.vec)]
def qbI (x:Lm):T:=.agg (lmC x)
theorem qeI (x:Lm):qbI x=.agg [.int .i64 x.st,.list (qab x.vec)]:=rfl
def qay (l:List Lm):List T:=l.map qbI
theorem qa8 (l:List Lm):(qay l).length=l.length:=by simp[qay]
@[simp] theorem qnA (D:Nat→Bool)(x:Lm):(qbI x).cl D=true:=by simp[qbI,lmC,T.cl,clL,qae]
@[simp] theorem qdO (D:Nat→Bool)(l:List Lm):clL D (qay l)=true:=by
 induction l with
 | nil=>rfl
 | cons x l ih=>simp only[qay,List.map_cons,clL,qnA,Bool.true_and];exact ih
def qam:List Lm→List T
 | []=>[]
 | k::ks=>.int .i64 k.st::.list (qab k.vec)::qam ks
theorem qaN:∀ks:List Lm,(qam ks).length=ks.length*2
 | []=>rfl
 | k::ks=>by simp[qam,qaN ks];omega
theorem qbc (xs ys:List Lm):qam (xs++ys)=qam xs++qam ys:=by
 induction xs with
 | nil=>rfl
 | cons x xs ih=>simp[qam,ih]
theorem qbV:∀ks:List Lm,qam ks=flat (qay ks)
 | []=>rfl
 | k::ks=>by
  rw[qam,qbV ks];rfl
theorem qbG (D:Nat→Bool):∀ks:List Lm,clL D (qam ks)=true
 | []=>rfl
 | k::ks=>by simp[qam,clL,T.cl,qae,qbG D ks]
theorem qdz:∀ks:List Lm,Ones (qam ks)
 | []=>fun c hc=>by cases hc
 | k::ks=>fun c hc=>by
  simp only[qam,List.mem_cons] at hc
  rcases hc with rfl | rfl | hc
  ·rfl
  ·rfl
  ·exact qdz ks c hc
theorem qdP (ks:List Lm):qbL (esz 2) (qay ks):=fun x hx=>by
 obtain⟨v,_,rfl⟩:=List.mem_map.1 hx
 rfl
theorem qhC (xs ys:List Lm)(i:Nat)(h:xs.length=i):List.take ((i:Int).toNat*2) (qam (xs++ys))=qam xs:=by
 rw[qbc,Int.toNat_natCast,←h,←qaN,List.take_left]
theorem qhB (xs ys:List Lm)(v:Lm)(i:Nat)(h:xs.length=i):List.drop ((i:Int).toNat*2+2) (qam (xs++v::ys))=qam ys:=by
 rw[qbc,Int.toNat_natCast,←h,←qaN,←List.drop_drop,List.drop_left];rfl
theorem qjq {H:Heap}{id ty n tot:Nat}(ks:List Lm)(hb:H id=.live ⟨ty,qam ks⟩)(hn:n=ks.length)(ht:tot=ks.length*2):Frz H (.sl id tot 2 0 n) (.list (qay ks)):=by
 subst hn ht
 refine Frz.sl hb (qaN ks) (by simp[esz]) (qa8 ks) (qdP ks) (by rw[←qbV];exact qdz ks) fun k hk=>?_
 rw[←qbV,Nat.zero_add]
 exact .same (qaP (qbG _ ks) k)
def Lm.toV (x:Lm):V:=.mk x.st (x.vec.map natV)
def fromV (v:V):Lm:=⟨v.n,v.kids.map V.n⟩
theorem qc3 (x:Lm):fromV x.toV=x:=by
 rcases x with⟨s,v⟩
 simp only[Lm.toV,fromV,V.n,V.kids,List.map_map,Lm.mk.injEq,true_and]
 exact (List.map_congr_left fun a _=>rfl).trans (List.map_id v)
theorem qne {x y:Lm}(h:x.toV=y.toV):x=y:=by rw[←qc3 x,h,qc3]
def qcl (a b:Lm):Int:=if ordI a.st b.st=0 then vCmp a.vec b.vec else ordI a.st b.st
theorem qpu (a b:Int):cmpV (natV a) (natV b)=ordI a b:=by
 have e0:cmpL [] []=0:=by unfold cmpL;rfl
 simp only[cmpV,e0]
 by_cases h:a=b
 ·subst h;simp[qqd]
 ·rw[if_pos h]
theorem qje:∀(a b:List Int),a.length=b.length→cmpL (a.map natV) (b.map natV)=lexS a b
 | [],[],_=>rfl
 | [],_::_,h=>by simp at h
 | _::_,[],h=>by simp at h
 | x::a,y::b,h=>by
  have ih:=qje a b (by simpa using h)
  simp only[List.map_cons,cmpL,lexS,qpu,ih]
  by_cases hz:ordI x y=0
  ·rw[if_pos hz,if_neg (by simp[hz])]
  ·rw[if_neg hz,if_pos hz]
theorem qiu (a b:Lm):qcl a b=cmpV a.toV b.toV:=by
 simp only[qcl,vCmp,Lm.toV,cmpV,List.length_map]
 by_cases h1:a.st=b.st
 ·rw[if_pos (qgY.2 h1),if_neg (show ¬a.st≠b.st from fun h=>h h1)]
  by_cases h2:a.vec.length=b.vec.length
  ·rw[if_pos (qgY.2 (by rw[h2])),if_neg (show ¬a.vec.length≠b.vec.length from fun h=>h h2),qje _ _ h2]
  ·rw[if_neg (show ¬ordI (a.vec.length:Int) b.vec.length=0 from fun h=>h2 (by have:=qgY.1 h;omega)),if_pos h2]
 ·rw[if_neg (show ¬ordI a.st b.st=0 from fun h=>h1 (qgY.1 h)),if_pos h1]
theorem qlq:SWO (ltOf qcl):=by
 have e:∀a b,ltOf qcl a b=ltOf cmpV a.toV b.toV:=fun a b=>by simp only[ltOf,qiu]
 obtain⟨h1,h2,h3⟩:=qnv
 refine⟨fun x=>by rw[e];exact h1 _,fun x y z h h'=>?_,fun x y z h h'=>?_⟩
 ·rw[e] at *;exact h2 _ _ _ h h'
 ·rw[e] at *;exact h3 _ _ _ h h'
def qa4 (l:List Lm):List Lm:=(qk0 (l.map Lm.toV)).map fromV
theorem qkZ (l:List Lm):(qa4 l).map Lm.toV=qk0 (l.map Lm.toV):=by
 rw[qa4,List.map_map]
 refine (List.map_congr_left fun v hv=>?_).trans (List.map_id _)
 obtain⟨x,_,rfl⟩:=List.mem_map.1 ((qdn _).mem_iff.1 hv)
 simp[qc3]
theorem qfO (l:List Lm):(qa4 l).Perm l:=by
 have h:=(qdn (l.map Lm.toV)).map fromV
 rw[List.map_map] at h
 refine h.trans (.of_eq ((List.map_congr_left fun v _=>?_).trans (List.map_id l)))
 simp[qc3]
theorem qkY (l:List Lm):(qa4 l).length=l.length:=(qfO l).length_eq
theorem qm5 {l zs:List Lm}(h:zs.Perm l)(hz:zs.Pairwise fun a b=>¬qcl b a<0):zs=qa4 l:=by
 have h1:=qoL (h.map Lm.toV) (List.pairwise_map.2 (hz.imp fun {a b} hab=>by rw[←qiu];exact hab))
 rw[qa4,←h1,List.map_map]
 exact ((List.map_congr_left fun v _=>by simp[qc3]).trans (List.map_id zs)).symm
def qcS (p:Lm):List Lm→List Lm
 | []=>[]
 | x::l=>if qcl x p=0 then qcS x l else x::qcS x l
def qaH:List Lm→List Lm
 | []=>[]
 | x::l=>x::qcS x l
theorem qfb:∀(l:List Lm) (p:Lm),(qcS p l).map Lm.toV=ddp p.toV (l.map Lm.toV)
 | [],_=>rfl
 | x::l,p=>by
  simp only[qcS,List.map_cons,ddp,←qiu]
  split
  ·exact qfb l x
  ·rw[List.map_cons,qfb l x]
theorem qgu (l:List Lm):(qaH l).map Lm.toV=qeH (l.map Lm.toV):=by
 cases l with
 | nil=>rfl
 | cons x l=>simp only[qaH,List.map_cons,qeH,qfb]
def qcR (l:List Lm):List Lm:=qaH (qa4 l)
theorem qlf (l:List Lm):(qcR l).map Lm.toV=qeH (qk0 (l.map Lm.toV)):=by rw[qcR,qgu,qkZ]
theorem qlg (l:List Lm)(x:Lm):x∈qcR l↔x∈l:=by
 have h:=qlf l
 have h2:∀v,v∈(qcR l).map Lm.toV↔v∈l.map Lm.toV:=fun v=>by rw[h,qhl,(qdn _).mem_iff]
 constructor
 ·intro hx
  obtain⟨y,hy,e⟩:=List.mem_map.1 ((h2 _).1 (List.mem_map_of_mem hx))
  rw[←qne e];exact hy
 ·intro hx
  obtain⟨y,hy,e⟩:=List.mem_map.1 ((h2 _).2 (List.mem_map_of_mem hx))
  rw[←qne e];exact hy
theorem qdA:∀xs:List Lm,qam xs=rowW (fun v=>[T.int .i64 v.st,T.list (qab v.vec)]) xs
 | []=>rfl
 | x::xs=>by rw[qam,qdA xs];rfl
theorem qff (a b:Lm)(ha:a.fit)(hb:b.fit):TP Tryz.prog 35 [qbI a,qbI b] (.int .i64 (qcl a b)):=by
 simp only[qbI,lmC]
 have fX:=@qiV
 refine qai fn35 (by simp) ?_
 unfold i35
 simp only[argL]
 refine wR0 0 [2,3] fX ?_
 refine wRn 100 [4] fX ?_
 refine rC fX ?_
 refine⟨_,qeZ _ _,rN fX ?_⟩
 refine rC fX ?_
 refine⟨_,qi4 a.vec b.vec ha hb,rN fX ?_⟩
 refine rL [(110,.live ⟨3,qab [ordI a.st b.st,vCmp a.vec b.vec]⟩)] fX ?_
 refine⟨_,_,qlx [ordI a.st b.st,vCmp a.vec b.vec] (by simp),(by exact FrzL.cons (qbt [ordI a.st b.st,vCmp a.vec b.vec] rfl rfl rfl) FrzL.nil),rfl,rE fX ?_⟩
 refine wP ?_
 exact qaB (by simp only[orL,qcl,ne_eq];split<;>simp_all)
theorem qnG (a b:Lm)(ha:a.fit)(hb:b.fit):TP Tryz.prog 37 [qbI a,qbI b] (.bool (qcl a b==0)):=by
 have hc:=qff a b ha hb
 simp only[qbI,lmC] at hc ⊢
 refine qai fn37 (by simp) ?_
 unfold i37
 simp only[argL]
 refine wR0 0 [2,3] cJ0 ?_
 refine wRn 100 [4] cJ0 ?_
 refine rC cJ0 ?_
 refine⟨_,hc,rE cJ0 ?_⟩
 refine wP ?_
 exact .same rfl
theorem qhU:Enters Tryz.prog 34:=enters_of Tryz.func34 (by kernel_rfl) rfl
theorem qm6 (id ty:Nat)(xs:List Lm)(hne:xs≠[])(hl:xs.length≤1000000)(hv:∀v∈xs,v.fit) :
 TC Tryz.prog 34 [.sl id (xs.length*2) 2 0 xs.length,.fn 35 []] (hpL [(id,.live ⟨ty,qam xs⟩)]) (.tup []) (hpL [(id,.live ⟨ty,qam (qa4 xs)⟩)]):=by
 rw[qdA,qdA]
 refine qqD Tryz.sorts34 _ 2 (fun _=>rfl) (fun x D=>by simp[clL,T.cl,qae]) (fun x c hc=>?_) (fun w=>?_) (fun w=>?_) qcl qlq _ id ty xs (qa4 xs) hne (by omega) (fun x hx y hy=>?_) (fun zs hp ha=>qm5 hp ha) qhU
 ·simp only[List.mem_cons,List.not_mem_nil,or_false] at hc
  rcases hc with rfl | rfl<;>rfl
 ·exact Tryz.isAgg62 w
 ·exact Tryz.sizeOf62 w
 ·exact qff x y (hv x hx) (hv y hy)
end
section
open Go.RowKit
set_option maxHeartbeats 2000000
theorem qdd (xs:List Lm)(v:Lm)(ys:List Lm)(i:Nat)(h:i=xs.length*2):List.take 2 (List.drop i (qam (xs++v::ys)))=[.int .i64 v.st,.list (qab v.vec)]:=by
 subst h
 rw[qbc,←qaN,List.drop_left];rfl
theorem qhS (kept junk rest:List Lm)(p x:Lm)(k:Nat)(hk:kept.length=k):∃junk':List Lm,junk'.length=junk.length∧List.take ((k:Int).toNat*2) (qam (kept++junk++p::x::rest))++[.int .i64 x.st,.list (qab x.vec)]++List.drop ((k:Int).toNat*2+2) (qam (kept++junk++p::x::rest))=qam (kept++[x]++junk'++x::rest):=by
 obtain⟨y,junk',e⟩:∃y junk',junk++[p]=y::junk':=by cases junk with
  | nil=>exact⟨p,[],rfl⟩
  | cons z j=>exact⟨z,j++[p],rfl⟩
 have hl:junk'.length=junk.length:=by have:=congrArg List.length e;simpa using this.symm
 have e2:kept++junk++p::x::rest=kept++y::(junk'++x::rest):=by
  have:kept++junk++p::x::rest=kept++((junk++[p])++x::rest):=by simp
  rw[this,e];rfl
 refine⟨junk',hl,?_⟩
 rw[e2,qhC _ _ _ hk,qhB _ _ _ _ hk]
 simp only[qbc,qam,List.append_assoc,List.cons_append,List.nil_append]
theorem lcp_l1 (f:FuncId)(N k0 n2:Nat)(hN:n2+k0=N)(hNl:N≤1000000)(R:List Lm)(hf:∀a b:Lm,a.fit→b.fit→TP Tryz.prog f [qbI a,qbI b] (.bool (qcl a b==0)))(Q:IExit→(Nat→T)→Heap→Prop)
 (hQ:∀(kept junk:List Lm) (k2:Int),kept=R→kept.length+junk.length=N→Q (.exit 2) (ofL [(0,.sl 700 (N*2) 2 0 N),(1,.fn f []),(5,.int .i64 kept.length),(6,.sl 700 (N*2) 2 (k0*2) n2),(7,.int .i64 k2),(35,.bool false)]) (hpL [(700,.live ⟨62,qam (kept++junk)⟩)])) :
 ∀(rest kept junk:List Lm) (p:Lm) (k k2:Nat),kept.length=k→junk.length+k+1=k0+k2→1≤k2→junk.length+rest.length+1+k=N→kept++qcS p rest=R→(∀v∈p::rest,v.fit)→
 WL Tryz.prog 66 qjz (ofL [(0,.sl 700 (N*2) 2 0 N),(1,.fn f []),(5,.int .i64 k),(6,.sl 700 (N*2) 2 (k0*2) n2),(7,.int .i64 k2)]) (hpL [(700,.live ⟨62,qam (kept++junk++p::rest)⟩)]) Q:=by
 intro rest
 induction rest with
 | nil=>
  intro kept junk p k k2 hk hj h1 hl hR hv
  have hd:decide ((k2:Int)<(n2:Int))=false:=by simp at hl ⊢;omega
  subst hk
  have fX:=@hd
  refine qaa qjz.eq_1 ?_
  refine wR0 800 [0,1,5,6,7,35] fX ?_
  refine wF @hd ?_
  refine wX ?_
  refine wN ?_
  rw[List.append_assoc]
  exact hQ kept (junk++[p]) _ (by simpa [qcS] using hR) (by simp at hl ⊢;omega)
 | cons x rest ih=>
  intro kept junk p k k2 hk hj h1 hl hR hv
  have hd:decide ((k2:Int)<(n2:Int))=true:=by simp at hl ⊢;omega
  have hlt:(k2:Int)<(n2:Int):=by simp at hl;omega
  have hlt1:(k2:Int) - 1<(n2:Int):=by omega
  have hlt0:0≤(k2:Int) - 1:=by omega
  have hltk:(k:Int)<(N:Int):=by omega
  have hw:IntKind.wrap .i64 ((k2:Int)+1)=(k2:Int)+1:=wrap64 (by omega) (by omega)
  have hw1:IntKind.wrap .i64 ((k2:Int) - 1)=(k2:Int) - 1:=wrap64 (by omega) (by omega)
  have hw2:IntKind.wrap .i64 ((k:Int)+1)=(k:Int)+1:=wrap64 (by omega) (by omega)
  have hr1:List.take 2 (List.drop (k0*2+(k2:Int).toNat*2) (qam (kept++junk++p::x::rest)))=[.int .i64 x.st,.list (qab x.vec)]:=by
   have e:kept++junk++p::x::rest=(kept++junk++[p])++x::rest:=by simp
   rw[e];exact qdd _ _ _ _ (by simp;omega)
  have hr2:List.take 2 (List.drop (k0*2+((k2:Int) - 1).toNat*2) (qam (kept++junk++p::x::rest)))=[.int .i64 p.st,.list (qab p.vec)]:=qdd _ _ _ _ (by simp;omega)
  have hlen:(qam (kept++junk++p::x::rest)).length=N*2:=by rw[qaN];simp at hl ⊢;omega
  have hfx:=hf x p (hv x (by simp)) (hv p (by simp))
  rw[qeI,qeI] at hfx
  have fX:=(cJ7 @hd @hw @hw1 @hw2 @hr1 @hr2 @hlen)
  refine qaa qjz.eq_1 ?_
  refine wR0 800 [0,1,5,6,7,35] fX ?_
  refine wT @hd ?_
  refine wRn 900 [0,1,5,6,7,49] fX ?_
  refine rCv fX ?_
  refine⟨_,hfx,rE fX ?_⟩
  refine wS cJ0 (fun hc900=>?_) (fun hc900=>?_)
  ·skip
   refine wR0 1000 [0,1,5,6,7] fX ?_
   refine wR0 1100 [0,1,5,6,7] fX ?_
   refine wR0 1200 [0,1,5,6,7] fX ?_
   refine wN ?_
   first | (have q:qcl x p≠0:=(by simpa using hc900);obtain⟨junk',hjl,e⟩:=qhS kept junk rest p x k hk;rw[e];exact ih (kept++[x]) junk' x (k+1) (k2+1) (by simp[hk]) (by omega) (by omega) (by simp at hl;omega) (by rw[qcS,if_neg q] at hR;simpa using hR) (fun v hv'=>hv v (List.mem_cons_of_mem _ hv'))) | (have q:qcl x p=0:=(by simpa using hc900);have e:kept++junk++p::x::rest=kept++(junk++[p])++x::rest:=(by simp);rw[e];exact ih kept (junk++[p]) x k (k2+1) hk (by simp;omega) (by omega) (by simp at hl ⊢;omega) (by rw[qcS,if_pos q] at hR;exact hR) (fun v hv'=>hv v (List.mem_cons_of_mem _ hv')))
  ·skip
   refine wR0 1200 [0,1,5,6,7] fX ?_
   refine wN ?_
   first | (have q:qcl x p≠0:=(by simpa using hc900);obtain⟨junk',hjl,e⟩:=qhS kept junk rest p x k hk;rw[e];exact ih (kept++[x]) junk' x (k+1) (k2+1) (by simp[hk]) (by omega) (by omega) (by simp at hl;omega) (by rw[qcS,if_neg q] at hR;simpa using hR) (fun v hv'=>hv v (List.mem_cons_of_mem _ hv'))) | (have q:qcl x p=0:=(by simpa using hc900);have e:kept++junk++p::x::rest=kept++(junk++[p])++x::rest:=(by simp);rw[e];exact ih kept (junk++[p]) x k (k2+1) hk (by simp;omega) (by omega) (by simp at hl ⊢;omega) (by rw[qcS,if_pos q] at hR;exact hR) (fun v hv'=>hv v (List.mem_cons_of_mem _ hv')))
theorem qfa:∀(l:List Lm) (p:Lm),(qcS p l).length≤l.length
 | [],p=>Nat.le_refl _
 | x::l,p=>by
  have:=qfa l x
  simp only[qcS];split<;>simp<;>omega
theorem lcp_l0 (f:FuncId)(N:Nat)(hNl:N≤1000000)(R:List Lm)(hf:∀a b:Lm,a.fit→b.fit→TP Tryz.prog f [qbI a,qbI b] (.bool (qcl a b==0)))(Q:IExit→(Nat→T)→Heap→Prop)
 (hQ0:∀(k:Int),R.length=N→Q (.exit 0) (ofL [(0,.sl 700 (N*2) 2 0 N),(1,.fn f []),(5,.int .i64 k),(15,.bool false)]) (hpL [(700,.live ⟨62,qam R⟩)]))
 (hQ1:R.length≤N→Q .ret (ofL [(4,.sl 700 (N*2) 2 0 R.length)]) (hpL [(700,.live ⟨62,qam R++repl (N - R.length) [.int .i64 0,.nil]⟩)])) :
 ∀(rest pre:List Lm) (p:Lm) (k:Nat),pre.length+1=k→pre.length+1+rest.length=N→pre++p::qcS p rest=R→(∀v∈p::rest,v.fit)→
 WL Tryz.prog 66 qjy (ofL [(0,.sl 700 (N*2) 2 0 N),(1,.fn f []),(5,.int .i64 k)]) (hpL [(700,.live ⟨62,qam (pre++p::rest)⟩)]) Q:=by
 intro rest
 induction rest with
 | nil=>
  intro pre p k hk hl hR hv
  have hd:decide ((k:Int)<(N:Int))=false:=by simp at hl ⊢;omega
  simp only[qcS] at hR
  have fX:=@hd
  refine qaa qjy.eq_1 ?_
  refine wR0 400 [0,1,5,15] fX ?_
  refine wF @hd ?_
  refine wX ?_
  refine wN ?_
  rw[hR]
  exact hQ0 _ (by rw[←hR];simpa using hl)
 | cons x rest ih=>
  intro pre p k hk hl hR hv
  have hlt:(k:Int)<(N:Int):=by simp at hl;omega
  have hlt1:(k:Int) - 1<(N:Int):=by omega
  have hlt0:0≤(k:Int) - 1:=by omega
  have hd:decide ((k:Int)<(N:Int))=true:=decide_eq_true hlt
  have hw:IntKind.wrap .i64 ((k:Int)+1)=(k:Int)+1:=wrap64 (by omega) (by omega)
  have hw1:IntKind.wrap .i64 ((k:Int) - 1)=(k:Int) - 1:=wrap64 (by omega) (by omega)
  have hr1:List.take 2 (List.drop ((k:Int).toNat*2) (qam (pre++p::x::rest)))=[.int .i64 x.st,.list (qab x.vec)]:=by
   have e:pre++p::x::rest=(pre++[p])++x::rest:=by simp
   rw[e];exact qdd _ _ _ _ (by simp;omega)
  have hr2:List.take 2 (List.drop (((k:Int) - 1).toNat*2) (qam (pre++p::x::rest)))=[.int .i64 p.st,.list (qab p.vec)]:=qdd _ _ _ _ (by omega)
  have hlen:(qam (pre++p::x::rest)).length=N*2:=by rw[qaN];simp at hl ⊢;omega
  have hfx:=hf x p (hv x (by simp)) (hv p (by simp))
  rw[qeI,qeI] at hfx
  have fX:=(cJ6 @hd @hw @hw1 @hr1 @hr2 @hlen)
  refine qaa qjy.eq_1 ?_
  refine wR0 400 [0,1,5,15] fX ?_
  refine wT @hd ?_
  refine wRn 500 [0,1,5,28] fX ?_
  refine rCv fX ?_
  refine⟨_,hfx,rE fX ?_⟩
  simp only[thn]
  have hkn:¬((k:Int).toNat=N):=(by omega)
  refine wS cJ0 (fun hc500=>?_) (fun hc500=>?_)
  ·skip
   refine wR0 600 [0,1,5,6] (cJ2 @hkn fX) ?_
   refine wR0 700 [0,1,5,6,7] fX ?_
   simp only[thn]
   have q:qcl x p=0:=(by simpa using hc500)
   have hRN:R.length<N:=(by have h9:=qfa rest x;rw[←hR,qcS,if_pos q];simp at hl ⊢;omega)
   have e:pre++p::x::rest=pre++[p]++[]++x::rest:=(by simp)
   rw[e]
   (try simp only[Int.toNat_natCast])
   refine wL ?_
   refine lcp_l1 f N k (N - k) (by omega) hNl R hf _ ?_ rest (pre++[p]) [] x k 1 (by simp<;>omega) (by simp<;>omega) (by omega) (by simp at hl ⊢<;>omega) (by rw[qcS,if_pos q] at hR;simpa using hR) (fun v hv'=>hv v (List.mem_cons_of_mem _ hv'))
   ·intro kept junk k2 hkR hkl
    refine wN ?_
    refine wN ?_
    have hkn2:¬(kept.length=N):=(by rw[hkR];omega)
    have hkle:kept.length≤N:=(by omega)
    have hrep:(repl (N - kept.length) [T.int .i64 0,T.nil]).length=(N - kept.length)*2:=(by rw[qaF];rfl)
    have hlen2:(qam (kept++junk)).length=N*2:=(by rw[qaN];simp;omega)
    refine wR0 1300 [0,5] (cJ5 @Int.toNat_natCast @hkn2 @hlen2 @hrep fX) ?_
    refine wR0 1400 [4] (cJ4 @Int.toNat_natCast @hkn2 @hlen2 fX) ?_
    refine wE ?_
    refine wN ?_
    have hk0:¬(0=kept.length):=(by rw[hkR,←hR];simp)
    have e1:List.take (kept.length*2) (qam (kept++junk))=qam kept:=(by rw[qbc,←qaN,List.take_left])
    have e2:List.drop (kept.length*2+(N - kept.length)*2) (qam (kept++junk))=[]:=List.drop_eq_nil_of_le (by rw[hlen2];omega)
    rw[if_neg hk0,Nat.sub_zero,e1,e2,List.append_nil]
    subst hkR
    exact hQ1 hkle
  ·skip
   refine wR0 1500 [0,1,5] fX ?_
   refine wN ?_
   have e:pre++p::x::rest=pre++[p]++x::rest:=(by simp)
   rw[e]
   exact ih (pre++[p]) x (k+1) (by simp;omega) (by simp at hl ⊢;omega) (by have q:qcl x p≠0:=(by simpa using hc500);rw[qcS,if_neg q] at hR;simpa using hR) (fun v hv'=>hv v (List.mem_cons_of_mem _ hv'))
theorem qdM (xs:List Lm):(qaH xs).length≤xs.length:=by
 cases xs with
 | nil=>exact Nat.le_refl _
 | cons x l=>have:=qfa l x;simp only[qaH,List.length_cons];omega
def qb5 (xs:List Lm):List T:=repl (xs.length - (qaH xs).length) [.int .i64 0,.nil]
theorem qk4 (xs:List Lm):(qam (qaH xs)++qb5 xs).length=xs.length*2:=by
 have:=qdM xs
 rw[List.length_append,qaN,qb5,qaF];simp;omega
theorem qhR (f:FuncId)(x:Lm)(l:List Lm)(N:Nat)(hN:(x::l).length=N)(hl:N≤1000000)(hv:∀v∈x::l,v.fit)(hf:∀a b:Lm,a.fit→b.fit→TP Tryz.prog f [qbI a,qbI b] (.bool (qcl a b==0))) :
 TC Tryz.prog 36 [.sl 700 (N*2) 2 0 N,.fn f []] (hpL [(700,.live ⟨62,qam (x::l)⟩)]) (.sl 700 (N*2) 2 0 (qaH (x::l)).length) (hpL [(700,.live ⟨62,qam (qaH (x::l))++qb5 (x::l)⟩)]):=by
 have ht0:(qaH (x::l)).length=N→qb5 (x::l)=[]:=fun h=>by rw[qb5,hN,h];simp[repl]
 have ht1:repl (N - (qaH (x::l)).length) [T.int .i64 0,T.nil]=qb5 (x::l):=by rw[qb5,hN]
 by_cases h2:(N:Int)<2
 ·have hd:decide ((N:Int)<2)=true:=decide_eq_true h2
  obtain rfl:l=[]:=List.eq_nil_of_length_eq_zero (by simp at hN;omega)
  have h1:(qaH [x]).length=N:=hN
  rw[h1,ht0 h1]
  have fX:=@hd
  refine qd9 fn36 (by simp) ?_
  unfold i36
  simp only[argL]
  refine wR0 0 [0,1] fX ?_
  refine wR0 100 [0,1,10] fX ?_
  refine wT @hd ?_
  refine wR0 200 [4] fX ?_
  refine wE ?_
  refine wN ?_
  exact⟨by simp,rfl,rfl⟩
 ·have hd:decide ((N:Int)<2)=false:=decide_eq_false h2
  have fX:=@hd
  refine qd9 fn36 (by simp) ?_
  unfold i36
  simp only[argL]
  refine wR0 0 [0,1] fX ?_
  refine wR0 100 [0,1,10] fX ?_
  refine wF @hd ?_
  refine wR0 300 [0,1,5] fX ?_
  refine wL ?_
  refine lcp_l0 f N hl (qaH (x::l)) hf _ ?_ ?_ l [] x 1 rfl (by simp at hN ⊢;omega) rfl hv
  ·intro k hR
   refine wN ?_
   refine wR0 1600 [4] fX ?_
   refine wE ?_
   refine wN ?_
   exact⟨by simp,by rw[hR];rfl,by rw[ht0 hR,List.append_nil]⟩
  ·intro hR
   refine wN ?_
   exact⟨by simp,rfl,by rw[ht1]⟩
theorem qiG (f:FuncId)(xs:List Lm)(hne:xs≠[])(hl:xs.length≤1000000)(hv:∀v∈xs,v.fit)(hf:∀a b:Lm,a.fit→b.fit→TP Tryz.prog f [qbI a,qbI b] (.bool (qcl a b==0))) :
 TC Tryz.prog 36 [.sl 700 (xs.length*2) 2 0 xs.length,.fn f []] (hpL [(700,.live ⟨62,qam xs⟩)]) (.sl 700 (xs.length*2) 2 0 (qaH xs).length) (hpL [(700,.live ⟨62,qam (qaH xs)++qb5 xs⟩)]):=by
 rcases xs with _ | ⟨x,l⟩
 ·exact absurd rfl hne
 ·exact qhR f x l _ rfl hl hv hf
end
end Go.Proofs.YtncpdpbpcnoeeaaGreat
