/- Contracts of functions of the program, for all arguments that they name. -/
import Derived.Test.YtoeeppojakbciaaGreatSorts
import Derived.Test.YtoeeppojakbciaaGreatK02
import Derived.Test.YtoeeppojakbciaaGreatK03
import Derived.Test.YtoeeppojakbciaaGreatK07
import Derived.Test.YtoeeppojakbciaaGreatK20
import Derived.Test.YtoeeppojakbciaaGreatK25
namespace Go.Proofs.YtoeeppojakbciaaGreat
set_option linter.unusedVariables false
section
open Go.RowKit Go.Sort Go.Shelf
set_option maxHeartbeats 2000000
structure Lm where
 st:Int
 vec:List Int
instance:Inhabited Lm:=⟨⟨0,[]⟩⟩
def Lm.fit (x:Lm):Prop:=x.vec.length≤1000000
def lmC (x:Lm):List T:=[.int .i64 x.st,.list (qac x.vec)]
def qcp (x:Lm):T:=.agg (lmC x)
theorem qfV (x:Lm):qcp x=.agg [.int .i64 x.st,.list (qac x.vec)]:=rfl
def qaA (l:List Lm):List T:=l.map qcp
theorem qaZ (l:List Lm):(qaA l).length=l.length:=by simp[qaA]
@[simp] theorem qqE (D:Nat→Bool)(x:Lm):(qcp x).cl D=true:=by simp[qcp,lmC,T.cl,clL,qae]
@[simp] theorem qa2 (D:Nat→Bool)(l:List Lm):clL D (qaA l)=true:=by
 induction l with
 | nil=>rfl
 | cons x l ih=>simp only[qaA,List.map_cons,clL,qqE,Bool.true_and];exact ih
def qay:List Lm→List T
 | []=>[]
 | k::ks=>.int .i64 k.st::.list (qac k.vec)::qay ks
theorem qa8:∀ks:List Lm,(qay ks).length=ks.length*2
 | []=>rfl
 | k::ks=>by simp[qay,qa8 ks];omega
theorem qbC (xs ys:List Lm):qay (xs++ys)=qay xs++qay ys:=by
 induction xs with
 | nil=>rfl
 | cons x xs ih=>simp[qay,ih]
theorem qcA:∀ks:List Lm,qay ks=flat (qaA ks)
 | []=>rfl
 | k::ks=>by
  rw[qay,qcA ks];rfl
theorem qcl (D:Nat→Bool):∀ks:List Lm,clL D (qay ks)=true
 | []=>rfl
 | k::ks=>by simp[qay,clL,T.cl,qae,qcl D ks]
theorem qer:∀ks:List Lm,Ones (qay ks)
 | []=>fun c hc=>by cases hc
 | k::ks=>fun c hc=>by
  simp only[qay,List.mem_cons] at hc
  rcases hc with rfl | rfl | hc
  ·rfl
  ·rfl
  ·exact qer ks c hc
theorem qeM (ks:List Lm):qcr (esz 2) (qaA ks):=fun x hx=>by
 obtain⟨v,_,rfl⟩:=List.mem_map.1 hx
 rfl
theorem qjt (xs ys:List Lm)(i:Nat)(h:xs.length=i):List.take ((i:Int).toNat*2) (qay (xs++ys))=qay xs:=by
 rw[qbC,Int.toNat_natCast,←h,←qa8,List.take_left]
theorem qjs (xs ys:List Lm)(v:Lm)(i:Nat)(h:xs.length=i):List.drop ((i:Int).toNat*2+2) (qay (xs++v::ys))=qay ys:=by
 rw[qbC,Int.toNat_natCast,←h,←qa8,←List.drop_drop,List.drop_left];rfl
theorem qlM {H:Heap}{id ty n tot:Nat}(ks:List Lm)(hb:H id=.live ⟨ty,qay ks⟩)(hn:n=ks.length)(ht:tot=ks.length*2):Frz H (.sl id tot 2 0 n) (.list (qaA ks)):=by
 subst hn ht
 refine Frz.sl hb (qa8 ks) (by simp[esz]) (qaZ ks) (qeM ks) (by rw[←qcA];exact qer ks) fun k hk=>?_
 rw[←qcA,Nat.zero_add]
 exact .same (qa5 (qcl _ ks) k)
def Lm.toV (x:Lm):V:=.mk x.st (x.vec.map natV)
def fromV (v:V):Lm:=⟨v.n,v.kids.map V.n⟩
theorem qdH (x:Lm):fromV x.toV=x:=by
 rcases x with⟨s,v⟩
 simp only[Lm.toV,fromV,V.n,V.kids,List.map_map,Lm.mk.injEq,true_and]
 exact (List.map_congr_left fun a _=>rfl).trans (List.map_id v)
theorem qp8 {x y:Lm}(h:x.toV=y.toV):x=y:=by rw[←qdH x,h,qdH]
def qbR (a b:Lm):Int:=if ordI a.st b.st=0 then vCmp a.vec b.vec else ordI a.st b.st
theorem qsP (a b:Int):cmpV (natV a) (natV b)=ordI a b:=by
 have e0:cmpL [] []=0:=by unfold cmpL;rfl
 simp only[cmpV,e0]
 by_cases h:a=b
 ·subst h;simp[qkZ]
 ·rw[if_pos h]
theorem qlx:∀(a b:List Int),a.length=b.length→cmpL (a.map natV) (b.map natV)=lexS a b
 | [],[],_=>rfl
 | [],_::_,h=>by simp at h
 | _::_,[],h=>by simp at h
 | x::a,y::b,h=>by
  have ih:=qlx a b (by simpa using h)
  simp only[List.map_cons,cmpL,lexS,qsP,ih]
  by_cases hz:ordI x y=0
  ·rw[if_pos hz,if_neg (by simp[hz])]
  ·rw[if_neg hz,if_pos hz]
theorem qgt (a b:Lm):qbR a b=cmpV a.toV b.toV:=by
 simp only[qbR,vCmp,Lm.toV,cmpV,List.length_map]
 by_cases h1:a.st=b.st
 ·rw[if_pos (qcC.2 h1),if_neg (show ¬a.st≠b.st from fun h=>h h1)]
  by_cases h2:a.vec.length=b.vec.length
  ·rw[if_pos (qcC.2 (by rw[h2])),if_neg (show ¬a.vec.length≠b.vec.length from fun h=>h h2),qlx _ _ h2]
  ·rw[if_neg (show ¬ordI (a.vec.length:Int) b.vec.length=0 from fun h=>h2 (by have:=qcC.1 h;omega)),if_pos h2]
 ·rw[if_neg (show ¬ordI a.st b.st=0 from fun h=>h1 (qcC.1 h)),if_pos h1]
theorem qdW (a:Lm):qbR a a=0:=by rw[qgt,qgu]
theorem qoc:SWO (ltOf qbR):=by
 have e:∀a b,ltOf qbR a b=ltOf cmpV a.toV b.toV:=fun a b=>by simp only[ltOf,qgt]
 obtain⟨h1,h2,h3⟩:=qqv
 refine⟨fun x=>by rw[e];exact h1 _,fun x y z h h'=>?_,fun x y z h h'=>?_⟩
 ·rw[e] at *;exact h2 _ _ _ h h'
 ·rw[e] at *;exact h3 _ _ _ h h'
def qbp (l:List Lm):List Lm:=(qnL (l.map Lm.toV)).map fromV
theorem qnK (l:List Lm):(qbp l).map Lm.toV=qnL (l.map Lm.toV):=by
 rw[qbp,List.map_map]
 refine (List.map_congr_left fun v hv=>?_).trans (List.map_id _)
 obtain⟨x,_,rfl⟩:=List.mem_map.1 ((qeb _).mem_iff.1 hv)
 simp[qdH]
theorem qhj (l:List Lm):(qbp l).Perm l:=by
 have h:=(qeb (l.map Lm.toV)).map fromV
 rw[List.map_map] at h
 refine h.trans (.of_eq ((List.map_congr_left fun v _=>?_).trans (List.map_id l)))
 simp[qdH]
theorem qhV (l:List Lm):(qbp l).length=l.length:=(qhj l).length_eq
theorem qpZ {l zs:List Lm}(h:zs.Perm l)(hz:zs.Pairwise fun a b=>¬qbR b a<0):zs=qbp l:=by
 have h1:=qrZ (h.map Lm.toV) (List.pairwise_map.2 (hz.imp fun {a b} hab=>by rw[←qgt];exact hab))
 rw[qbp,←h1,List.map_map]
 exact ((List.map_congr_left fun v _=>by simp[qdH]).trans (List.map_id zs)).symm
def qdB (p:Lm):List Lm→List Lm
 | []=>[]
 | x::l=>if qbR x p=0 then qdB x l else x::qdB x l
def qa1:List Lm→List Lm
 | []=>[]
 | x::l=>x::qdB x l
theorem qgy:∀(l:List Lm) (p:Lm),(qdB p l).map Lm.toV=ddp p.toV (l.map Lm.toV)
 | [],_=>rfl
 | x::l,p=>by
  simp only[qdB,List.map_cons,ddp,←qgt]
  split
  ·exact qgy l x
  ·rw[List.map_cons,qgy l x]
theorem qh6 (l:List Lm):(qa1 l).map Lm.toV=qeH (l.map Lm.toV):=by
 cases l with
 | nil=>rfl
 | cons x l=>simp only[qa1,List.map_cons,qeH,qgy]
def qcs (l:List Lm):List Lm:=qa1 (qbp l)
theorem qi9 (l:List Lm):(qcs l).map Lm.toV=qeH (qnL (l.map Lm.toV)):=by rw[qcs,qh6,qnK]
theorem qeE (l:List Lm)(x:Lm):x∈qcs l↔x∈l:=by
 have h:=qi9 l
 have h2:∀v,v∈(qcs l).map Lm.toV↔v∈l.map Lm.toV:=fun v=>by rw[h,qjf,(qeb _).mem_iff]
 constructor
 ·intro hx
  obtain⟨y,hy,e⟩:=List.mem_map.1 ((h2 _).1 (List.mem_map_of_mem hx))
  rw[←qp8 e];exact hy
 ·intro hx
  obtain⟨y,hy,e⟩:=List.mem_map.1 ((h2 _).2 (List.mem_map_of_mem hx))
  rw[←qp8 e];exact hy
theorem qgf (l:List Lm):(qcs l).Pairwise fun a b=>qbR a b<0:=by
 have h:SAsc ((qcs l).map Lm.toV):=by rw[qi9];exact qh7 (qkm _)
 exact (List.pairwise_map.1 h).imp fun {a b} hab=>by rw[qgt];exact hab
theorem qes:∀xs:List Lm,qay xs=rowW (fun v=>[T.int .i64 v.st,T.list (qac v.vec)]) xs
 | []=>rfl
 | x::xs=>by rw[qay,qes xs];rfl
theorem qgB (a b:Lm)(ha:a.fit)(hb:b.fit):TP Tryz.prog 34 [qcp a,qcp b] (.int .i64 (qbR a b)):=by
 simp only[qcp,lmC]
 have fX:=@qhd
 refine qah fn34 (by simp) ?_
 unfold i34
 simp only[argL]
 refine wR0 0 [2,3] fX ?_
 refine wRn 100 [4] fX ?_
 refine rC fX ?_
 refine⟨_,qgi _ _,rN fX ?_⟩
 refine rC fX ?_
 refine⟨_,qlm a.vec b.vec ha hb,rN fX ?_⟩
 refine rL [(110,.live ⟨3,qac [ordI a.st b.st,vCmp a.vec b.vec]⟩)] fX ?_
 refine⟨_,_,qoj [ordI a.st b.st,vCmp a.vec b.vec] (by simp),(by exact FrzL.cons (qbx [ordI a.st b.st,vCmp a.vec b.vec] rfl rfl rfl) FrzL.nil),rfl,rE fX ?_⟩
 refine wP ?_
 exact qaE (by simp only[orL,qbR,ne_eq];split<;>simp_all)
theorem qqK (a b:Lm)(ha:a.fit)(hb:b.fit):TP Tryz.prog 36 [qcp a,qcp b] (.bool (qbR a b==0)):=by
 have hc:=qgB a b ha hb
 simp only[qcp,lmC] at hc ⊢
 refine qah fn36 (by simp) ?_
 unfold i36
 simp only[argL]
 refine wR0 0 [2,3] cJ0 ?_
 refine wRn 100 [4] cJ0 ?_
 refine rC cJ0 ?_
 refine⟨_,hc,rE cJ0 ?_⟩
 refine wP ?_
 exact .same rfl
theorem qjR:Enters Tryz.prog 33:=enters_of Tryz.func33 (by kernel_rfl) rfl
theorem qp0 (id ty:Nat)(xs:List Lm)(hne:xs≠[])(hl:xs.length≤1000000)(hv:∀v∈xs,v.fit) :
 TC Tryz.prog 33 [.sl id (xs.length*2) 2 0 xs.length,.fn 34 []] (hpL [(id,.live ⟨ty,qay xs⟩)]) (.tup []) (hpL [(id,.live ⟨ty,qay (qbp xs)⟩)]):=by
 rw[qes,qes]
 refine qtW Tryz.sorts33 _ 2 (fun _=>rfl) (fun x D=>by simp[clL,T.cl,qae]) (fun x c hc=>?_) (fun w=>?_) (fun w=>?_) qbR qoc _ id ty xs (qbp xs) hne (by omega) (fun x hx y hy=>?_) (fun zs hp ha=>qpZ hp ha) qjR
 ·simp only[List.mem_cons,List.not_mem_nil,or_false] at hc
  rcases hc with rfl | rfl<;>rfl
 ·exact Tryz.isAgg62 w
 ·exact Tryz.sizeOf62 w
 ·exact qgB x y (hv x hx) (hv y hy)
end
section
open Go.RowKit
set_option maxHeartbeats 2000000
theorem qd1 (xs:List Lm)(v:Lm)(ys:List Lm)(i:Nat)(h:i=xs.length*2):List.take 2 (List.drop i (qay (xs++v::ys)))=[.int .i64 v.st,.list (qac v.vec)]:=by
 subst h
 rw[qbC,←qa8,List.drop_left];rfl
theorem qjN (kept junk rest:List Lm)(p x:Lm)(k:Nat)(hk:kept.length=k):∃junk':List Lm,junk'.length=junk.length∧List.take ((k:Int).toNat*2) (qay (kept++junk++p::x::rest))++[.int .i64 x.st,.list (qac x.vec)]++List.drop ((k:Int).toNat*2+2) (qay (kept++junk++p::x::rest))=qay (kept++[x]++junk'++x::rest):=by
 obtain⟨y,junk',e⟩:∃y junk',junk++[p]=y::junk':=by cases junk with
  | nil=>exact⟨p,[],rfl⟩
  | cons z j=>exact⟨z,j++[p],rfl⟩
 have hl:junk'.length=junk.length:=by have:=congrArg List.length e;simpa using this.symm
 have e2:kept++junk++p::x::rest=kept++y::(junk'++x::rest):=by
  have:kept++junk++p::x::rest=kept++((junk++[p])++x::rest):=by simp
  rw[this,e];rfl
 refine⟨junk',hl,?_⟩
 rw[e2,qjt _ _ _ hk,qjs _ _ _ _ hk]
 simp only[qbC,qay,List.append_assoc,List.cons_append,List.nil_append]
theorem lcp_l1 (f:FuncId)(N k0 n2:Nat)(hN:n2+k0=N)(hNl:N≤1000000)(R:List Lm)(hf:∀a b:Lm,a.fit→b.fit→TP Tryz.prog f [qcp a,qcp b] (.bool (qbR a b==0)))(Q:IExit→(Nat→T)→Heap→Prop)
 (hQ:∀(kept junk:List Lm) (k2:Int),kept=R→kept.length+junk.length=N→Q (.exit 2) (ofL [(0,.sl 700 (N*2) 2 0 N),(1,.fn f []),(5,.int .i64 kept.length),(6,.sl 700 (N*2) 2 (k0*2) n2),(7,.int .i64 k2),(35,.bool false)]) (hpL [(700,.live ⟨62,qay (kept++junk)⟩)])) :
 ∀(rest kept junk:List Lm) (p:Lm) (k k2:Nat),kept.length=k→junk.length+k+1=k0+k2→1≤k2→junk.length+rest.length+1+k=N→kept++qdB p rest=R→(∀v∈p::rest,v.fit)→
 WL Tryz.prog 66 qlY (ofL [(0,.sl 700 (N*2) 2 0 N),(1,.fn f []),(5,.int .i64 k),(6,.sl 700 (N*2) 2 (k0*2) n2),(7,.int .i64 k2)]) (hpL [(700,.live ⟨62,qay (kept++junk++p::rest)⟩)]) Q:=by
 intro rest
 induction rest with
 | nil=>
  intro kept junk p k k2 hk hj h1 hl hR hv
  have hd:decide ((k2:Int)<(n2:Int))=false:=by simp at hl ⊢;omega
  subst hk
  have fX:=@hd
  refine qaa qlY.eq_1 ?_
  refine wR0 800 [0,1,5,6,7,35] fX ?_
  refine wF @hd ?_
  refine wX ?_
  refine wN ?_
  rw[List.append_assoc]
  exact hQ kept (junk++[p]) _ (by simpa [qdB] using hR) (by simp at hl ⊢;omega)
 | cons x rest ih=>
  intro kept junk p k k2 hk hj h1 hl hR hv
  have hd:decide ((k2:Int)<(n2:Int))=true:=by simp at hl ⊢;omega
  have hlt:(k2:Int)<(n2:Int):=by simp at hl;omega
  have hlt1:(k2:Int) - 1<(n2:Int):=by omega
  have hlt0:0≤(k2:Int) - 1:=by omega
  have hltk:(k:Int)<(N:Int):=by omega
  have hw:IntKind.wrap .i64 ((k2:Int)+1)=(k2:Int)+1:=wrap64 (by omega) (by omega)
  have hw1:IntKind.wrap .i64 ((k2:Int) - 1)=(k2:Int) - 1:=wrap64 (by omega) (by omega)
  have hw2:IntKind.wrap .i64 ((k:Int)+1)=(k:Int)+1:=wrap64 (by omega) (by omega)
  have hr1:List.take 2 (List.drop (k0*2+(k2:Int).toNat*2) (qay (kept++junk++p::x::rest)))=[.int .i64 x.st,.list (qac x.vec)]:=by
   have e:kept++junk++p::x::rest=(kept++junk++[p])++x::rest:=by simp
   rw[e];exact qd1 _ _ _ _ (by simp;omega)
  have hr2:List.take 2 (List.drop (k0*2+((k2:Int) - 1).toNat*2) (qay (kept++junk++p::x::rest)))=[.int .i64 p.st,.list (qac p.vec)]:=qd1 _ _ _ _ (by simp;omega)
  have hlen:(qay (kept++junk++p::x::rest)).length=N*2:=by rw[qa8];simp at hl ⊢;omega
  have hfx:=hf x p (hv x (by simp)) (hv p (by simp))
  rw[qfV,qfV] at hfx
  have fX:=(cJ7 @hd @hw @hw1 @hw2 @hr1 @hr2 @hlen)
  refine qaa qlY.eq_1 ?_
  refine wR0 800 [0,1,5,6,7,35] fX ?_
  refine wT @hd ?_
  refine wRn 900 [0,1,5,6,7,49] fX ?_
  refine rCv fX ?_
  refine⟨_,hfx,rE fX ?_⟩
  refine wS cJ0 (fun hc900=>?_) (fun hc900=>?_)
  ·skip
   refine wR0 1000 [0,1,5,6,7] fX ?_
   refine wR0 1100 [0,1,5,6,7] fX ?_
   refine wR0 1200 [0,1,5,6,7] fX ?_
   refine wN ?_
   first | (have q:qbR x p≠0:=(by simpa using hc900);obtain⟨junk',hjl,e⟩:=qjN kept junk rest p x k hk;rw[e];exact ih (kept++[x]) junk' x (k+1) (k2+1) (by simp[hk]) (by omega) (by omega) (by simp at hl;omega) (by rw[qdB,if_neg q] at hR;simpa using hR) (fun v hv'=>hv v (List.mem_cons_of_mem _ hv'))) | (have q:qbR x p=0:=(by simpa using hc900);have e:kept++junk++p::x::rest=kept++(junk++[p])++x::rest:=(by simp);rw[e];exact ih kept (junk++[p]) x k (k2+1) hk (by simp;omega) (by omega) (by simp at hl ⊢;omega) (by rw[qdB,if_pos q] at hR;exact hR) (fun v hv'=>hv v (List.mem_cons_of_mem _ hv')))
  ·skip
   refine wR0 1200 [0,1,5,6,7] fX ?_
   refine wN ?_
   first | (have q:qbR x p≠0:=(by simpa using hc900);obtain⟨junk',hjl,e⟩:=qjN kept junk rest p x k hk;rw[e];exact ih (kept++[x]) junk' x (k+1) (k2+1) (by simp[hk]) (by omega) (by omega) (by simp at hl;omega) (by rw[qdB,if_neg q] at hR;simpa using hR) (fun v hv'=>hv v (List.mem_cons_of_mem _ hv'))) | (have q:qbR x p=0:=(by simpa using hc900);have e:kept++junk++p::x::rest=kept++(junk++[p])++x::rest:=(by simp);rw[e];exact ih kept (junk++[p]) x k (k2+1) hk (by simp;omega) (by omega) (by simp at hl ⊢;omega) (by rw[qdB,if_pos q] at hR;exact hR) (fun v hv'=>hv v (List.mem_cons_of_mem _ hv')))
theorem qgx:∀(l:List Lm) (p:Lm),(qdB p l).length≤l.length
 | [],p=>Nat.le_refl _
 | x::l,p=>by
  have:=qgx l x
  simp only[qdB];split<;>simp<;>omega
theorem lcp_l0 (f:FuncId)(N:Nat)(hNl:N≤1000000)(R:List Lm)(hf:∀a b:Lm,a.fit→b.fit→TP Tryz.prog f [qcp a,qcp b] (.bool (qbR a b==0)))(Q:IExit→(Nat→T)→Heap→Prop)
 (hQ0:∀(k:Int),R.length=N→Q (.exit 0) (ofL [(0,.sl 700 (N*2) 2 0 N),(1,.fn f []),(5,.int .i64 k),(15,.bool false)]) (hpL [(700,.live ⟨62,qay R⟩)]))
 (hQ1:R.length≤N→Q .ret (ofL [(4,.sl 700 (N*2) 2 0 R.length)]) (hpL [(700,.live ⟨62,qay R++repl (N - R.length) [.int .i64 0,.nil]⟩)])) :
 ∀(rest pre:List Lm) (p:Lm) (k:Nat),pre.length+1=k→pre.length+1+rest.length=N→pre++p::qdB p rest=R→(∀v∈p::rest,v.fit)→
 WL Tryz.prog 66 qlX (ofL [(0,.sl 700 (N*2) 2 0 N),(1,.fn f []),(5,.int .i64 k)]) (hpL [(700,.live ⟨62,qay (pre++p::rest)⟩)]) Q:=by
 intro rest
 induction rest with
 | nil=>
  intro pre p k hk hl hR hv
  have hd:decide ((k:Int)<(N:Int))=false:=by simp at hl ⊢;omega
  simp only[qdB] at hR
  have fX:=@hd
  refine qaa qlX.eq_1 ?_
  refine wR0 400 [0,1,5,15] fX ?_
  refine wF @hd ?_
  refine wX ?_
  refine wN ?_
  rw[hR]
  exact hQ0 _ (by rw[←hR];simpa using hl)
 | cons x rest ih=>
  intro pre p k hk hl hR hv
  have hlt:(k:Int)<(N:Int):=by simp at hl;omega
  have hlt1:(k:Int) - 1<(N:Int):=by omega
  have hlt0:0≤(k:Int) - 1:=by omega
  have hd:decide ((k:Int)<(N:Int))=true:=decide_eq_true hlt
  have hw:IntKind.wrap .i64 ((k:Int)+1)=(k:Int)+1:=wrap64 (by omega) (by omega)
  have hw1:IntKind.wrap .i64 ((k:Int) - 1)=(k:Int) - 1:=wrap64 (by omega) (by omega)
  have hr1:List.take 2 (List.drop ((k:Int).toNat*2) (qay (pre++p::x::rest)))=[.int .i64 x.st,.list (qac x.vec)]:=by
   have e:pre++p::x::rest=(pre++[p])++x::rest:=by simp
   rw[e];exact qd1 _ _ _ _ (by simp;omega)
  have hr2:List.take 2 (List.drop (((k:Int) - 1).toNat*2) (qay (pre++p::x::rest)))=[.int .i64 p.st,.list (qac p.vec)]:=qd1 _ _ _ _ (by omega)
  have hlen:(qay (pre++p::x::rest)).length=N*2:=by rw[qa8];simp at hl ⊢;omega
  have hfx:=hf x p (hv x (by simp)) (hv p (by simp))
  rw[qfV,qfV] at hfx
  have fX:=(cJ6 @hd @hw @hw1 @hr1 @hr2 @hlen)
  refine qaa qlX.eq_1 ?_
  refine wR0 400 [0,1,5,15] fX ?_
  refine wT @hd ?_
  refine wRn 500 [0,1,5,28] fX ?_
  refine rCv fX ?_
  refine⟨_,hfx,rE fX ?_⟩
  simp only[thn]
  have hkn:¬((k:Int).toNat=N):=(by omega)
  refine wS cJ0 (fun hc500=>?_) (fun hc500=>?_)
  ·skip
   refine wR0 600 [0,1,5,6] (cJ2 @hkn fX) ?_
   refine wR0 700 [0,1,5,6,7] fX ?_
   simp only[thn]
   have q:qbR x p=0:=(by simpa using hc500)
   have hRN:R.length<N:=(by have h9:=qgx rest x;rw[←hR,qdB,if_pos q];simp at hl ⊢;omega)
   have e:pre++p::x::rest=pre++[p]++[]++x::rest:=(by simp)
   rw[e]
   (try simp only[Int.toNat_natCast])
   refine wL ?_
   refine lcp_l1 f N k (N - k) (by omega) hNl R hf _ ?_ rest (pre++[p]) [] x k 1 (by simp<;>omega) (by simp<;>omega) (by omega) (by simp at hl ⊢<;>omega) (by rw[qdB,if_pos q] at hR;simpa using hR) (fun v hv'=>hv v (List.mem_cons_of_mem _ hv'))
   ·intro kept junk k2 hkR hkl
    refine wN ?_
    refine wN ?_
    have hkn2:¬(kept.length=N):=(by rw[hkR];omega)
    have hkle:kept.length≤N:=(by omega)
    have hrep:(repl (N - kept.length) [T.int .i64 0,T.nil]).length=(N - kept.length)*2:=(by rw[qaW];rfl)
    have hlen2:(qay (kept++junk)).length=N*2:=(by rw[qa8];simp;omega)
    refine wR0 1300 [0,5] (cJ5 @Int.toNat_natCast @hkn2 @hlen2 @hrep fX) ?_
    refine wR0 1400 [4] (cJ4 @Int.toNat_natCast @hkn2 @hlen2 fX) ?_
    refine wE ?_
    refine wN ?_
    have hk0:¬(0=kept.length):=(by rw[hkR,←hR];simp)
    have e1:List.take (kept.length*2) (qay (kept++junk))=qay kept:=(by rw[qbC,←qa8,List.take_left])
    have e2:List.drop (kept.length*2+(N - kept.length)*2) (qay (kept++junk))=[]:=List.drop_eq_nil_of_le (by rw[hlen2];omega)
    rw[if_neg hk0,Nat.sub_zero,e1,e2,List.append_nil]
    subst hkR
    exact hQ1 hkle
  ·skip
   refine wR0 1500 [0,1,5] fX ?_
   refine wN ?_
   have e:pre++p::x::rest=pre++[p]++x::rest:=(by simp)
   rw[e]
   exact ih (pre++[p]) x (k+1) (by simp;omega) (by simp at hl ⊢;omega) (by have q:qbR x p≠0:=(by simpa using hc500);rw[qdB,if_neg q] at hR;simpa using hR) (fun v hv'=>hv v (List.mem_cons_of_mem _ hv'))
theorem qdn (xs:List Lm):(qa1 xs).length≤xs.length:=by
 cases xs with
 | nil=>exact Nat.le_refl _
 | cons x l=>have:=qgx l x;simp only[qa1,List.length_cons];omega
def qcI (xs:List Lm):List T:=repl (xs.length - (qa1 xs).length) [.int .i64 0,.nil]
theorem qnP (xs:List Lm):(qay (qa1 xs)++qcI xs).length=xs.length*2:=by
 have:=qdn xs
 rw[List.length_append,qa8,qcI,qaW];simp;omega
theorem qjM (f:FuncId)(x:Lm)(l:List Lm)(N:Nat)(hN:(x::l).length=N)(hl:N≤1000000)(hv:∀v∈x::l,v.fit)(hf:∀a b:Lm,a.fit→b.fit→TP Tryz.prog f [qcp a,qcp b] (.bool (qbR a b==0))) :
 TC Tryz.prog 35 [.sl 700 (N*2) 2 0 N,.fn f []] (hpL [(700,.live ⟨62,qay (x::l)⟩)]) (.sl 700 (N*2) 2 0 (qa1 (x::l)).length) (hpL [(700,.live ⟨62,qay (qa1 (x::l))++qcI (x::l)⟩)]):=by
 have ht0:(qa1 (x::l)).length=N→qcI (x::l)=[]:=fun h=>by rw[qcI,hN,h];simp[repl]
 have ht1:repl (N - (qa1 (x::l)).length) [T.int .i64 0,T.nil]=qcI (x::l):=by rw[qcI,hN]
 by_cases h2:(N:Int)<2
 ·have hd:decide ((N:Int)<2)=true:=decide_eq_true h2
  obtain rfl:l=[]:=List.eq_nil_of_length_eq_zero (by simp at hN;omega)
  have h1:(qa1 [x]).length=N:=hN
  rw[h1,ht0 h1]
  have fX:=@hd
  refine qfe fn35 (by simp) ?_
  unfold i35
  simp only[argL]
  refine wR0 0 [0,1] fX ?_
  refine wR0 100 [0,1,10] fX ?_
  refine wT @hd ?_
  refine wR0 200 [4] fX ?_
  refine wE ?_
  refine wN ?_
  exact⟨by simp,rfl,rfl⟩
 ·have hd:decide ((N:Int)<2)=false:=decide_eq_false h2
  have fX:=@hd
  refine qfe fn35 (by simp) ?_
  unfold i35
  simp only[argL]
  refine wR0 0 [0,1] fX ?_
  refine wR0 100 [0,1,10] fX ?_
  refine wF @hd ?_
  refine wR0 300 [0,1,5] fX ?_
  refine wL ?_
  refine lcp_l0 f N hl (qa1 (x::l)) hf _ ?_ ?_ l [] x 1 rfl (by simp at hN ⊢;omega) rfl hv
  ·intro k hR
   refine wN ?_
   refine wR0 1600 [4] fX ?_
   refine wE ?_
   refine wN ?_
   exact⟨by simp,by rw[hR];rfl,by rw[ht0 hR,List.append_nil]⟩
  ·intro hR
   refine wN ?_
   exact⟨by simp,rfl,by rw[ht1]⟩
theorem qkN (f:FuncId)(xs:List Lm)(hne:xs≠[])(hl:xs.length≤1000000)(hv:∀v∈xs,v.fit)(hf:∀a b:Lm,a.fit→b.fit→TP Tryz.prog f [qcp a,qcp b] (.bool (qbR a b==0))) :
 TC Tryz.prog 35 [.sl 700 (xs.length*2) 2 0 xs.length,.fn f []] (hpL [(700,.live ⟨62,qay xs⟩)]) (.sl 700 (xs.length*2) 2 0 (qa1 xs).length) (hpL [(700,.live ⟨62,qay (qa1 xs)++qcI xs⟩)]):=by
 rcases xs with _ | ⟨x,l⟩
 ·exact absurd rfl hne
 ·exact qjM f x l _ rfl hl hv hf
end
end Go.Proofs.YtoeeppojakbciaaGreat
