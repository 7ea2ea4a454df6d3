/- Contracts of functions of the program, for all arguments that they name. -/
import Derived.Test.YtkbjpglehdhjfaaGreatDoorK12
namespace Go.Proofs.YtkbjpglehdhjfaaGreatDoor
set_option linter.unusedVariables false
section
open Go.RowKit
def qgg (i:Nat):ByteArray:=if i<10 then ⟨#[48+i.toUInt8]⟩ else ⟨#[48+(i / 10).toUInt8,48+(i % 10).toUInt8]⟩
def nmS (c:UInt8)(i:Nat):ByteArray:=(⟨#[c]⟩:ByteArray)++qgg i
def nmsS (c:UInt8)(n:Nat):List ByteArray:=(List.range n).map (nmS c)
def qaN (n j:Nat):List Int:=(List.replicate n 0).set j 1
def mngs (p:Pg):List (Int×Ev):=(List.range' 0 (plcs p).length).flatMap fun i=>(List.range' 0 p.vals.toNat).flatMap fun v=>(evL p (v:Nat) ((plcs p).getD i (0,0)).1 ((plcs p).getD i (0,0)).2).map fun e=>(((v:Nat):Int),e)
def evNo (p:Pg)(e:Ev):Nat:=plNo p e.th.toNat e.ln.toNat
def mrl (p:Pg)(r:Nat)(x:Int×Ev):Rl:=⟨nmS 114 r,x.1,x.2.val,qaN (plcs p).length (evNo p x.2),doC p (qaN (plcs p).length (evNo p x.2)) x.2,[],0,0,0,[],[],[],[],0⟩
def mdl (p:Pg):Md:=⟨1,nmsS 115 p.vals.toNat,nmsS 112 (plcs p).length,[],[],0,0,(mngs p).mapIdx (mrl p),cfV 0 (qaN (plcs p).length 0)⟩
theorem qip (a b:UInt8):(⟨#[a,b]⟩:ByteArray).toList=[a,b]:=by
 simp[ByteArray.toList,ByteArray.toList.loop,ByteArray.size,ByteArray.get!]
theorem qiq (a b c:UInt8):(⟨#[a,b,c]⟩:ByteArray).toList=[a,b,c]:=by
 simp[ByteArray.toList,ByteArray.toList.loop,ByteArray.size,ByteArray.get!]
theorem qpU (c:UInt8){i:Nat}(h:i<10):nmS c i=⟨#[c,48+i.toUInt8]⟩:=by unfold nmS qgg;rw[if_pos h];rfl
theorem qpS (c:UInt8){i:Nat}(h:¬i<10):nmS c i=⟨#[c,48+(i / 10).toUInt8,48+(i % 10).toUInt8]⟩:=by unfold nmS qgg;rw[if_neg h];rfl
theorem qjS (c:UInt8)(i:Nat):(nmS c i).size≤3:=by
 by_cases h:i<10
 ·rw[qpU c h];exact (show (2:Nat)≤3 by decide)
 ·rw[qpS c h];exact (show (3:Nat)≤3 by decide)
def figs (i:Nat):List UInt8:=if i<10 then [48+i.toUInt8] else [48+(i / 10).toUInt8,48+(i % 10).toUInt8]
theorem qdI (c:UInt8)(i:Nat):(nmS c i).toList=c::figs i:=by
 unfold figs
 by_cases h:i<10
 ·rw[qpU c h,qip,if_pos h]
 ·rw[qpS c h,qiq,if_neg h]
theorem qrR:∀i<12,∀j<12,figs i=figs j→i=j:=by decide
theorem word2 (a b:UInt8)(h:letB (a.toNat:Int)=true)(h2:qfp (b.toNat:Int)=true):qdQ ⟨#[a,b]⟩=true:=by
 have e0:qcf ⟨#[a,b]⟩ 0=(a.toNat:Int):=rfl
 have e1:qcf ⟨#[a,b]⟩ 1=(b.toNat:Int):=rfl
 have hs:(⟨#[a,b]⟩:ByteArray).size=2:=rfl
 have h1:qfp (a.toNat:Int)=true:=by rw[qfp,h];rfl
 have hr:runN ⟨#[a,b]⟩ 2 0=2:=by simp[runN,e0,e1,h1,h2]
 rw[qdQ,qip,qeM,hs,e0,h,hr]
 rfl
theorem word3 (a b c:UInt8)(h:letB (a.toNat:Int)=true)(h2:qfp (b.toNat:Int)=true)(h3:qfp (c.toNat:Int)=true):qdQ ⟨#[a,b,c]⟩=true:=by
 have e0:qcf ⟨#[a,b,c]⟩ 0=(a.toNat:Int):=rfl
 have e1:qcf ⟨#[a,b,c]⟩ 1=(b.toNat:Int):=rfl
 have e2:qcf ⟨#[a,b,c]⟩ 2=(c.toNat:Int):=rfl
 have hs:(⟨#[a,b,c]⟩:ByteArray).size=3:=rfl
 have h1:qfp (a.toNat:Int)=true:=by rw[qfp,h];rfl
 have hr:runN ⟨#[a,b,c]⟩ 3 0=3:=by simp[runN,e0,e1,e2,h1,h2,h3]
 rw[qdQ,qiq,qeM,hs,e0,h,hr]
 rfl
theorem figB:∀i<12,(figs i).all (fun b=>qfp (b.toNat:Int))=true:=by decide
theorem qjT (c:UInt8)(hc:letB (c.toNat:Int)=true){i:Nat}(hi:i<12):qdQ (nmS c i)=true:=by
 have hf:=figB i hi
 unfold figs at hf
 by_cases h:i<10
 ·rw[if_pos h] at hf
  rw[qpU c h]
  exact word2 _ _ hc (by simpa using hf)
 ·rw[if_neg h] at hf
  rw[qpS c h]
  simp only[List.all_cons,List.all_nil,Bool.and_true,Bool.and_eq_true] at hf
  exact word3 _ _ _ hc hf.1 hf.2
theorem figC:∀i<12,(figs i).getD 0 0<58:=by decide
theorem qpT (c:UInt8){i:Nat}(hi:i<12):kwS (nmS c i)=false:=by
 rw[kwS,inS,List.any_eq_false]
 intro k hk
 have hl:58≤k.toList.getD 1 0:=by
  simp only[kws,List.mem_cons,List.not_mem_nil,or_false] at hk
  rcases hk with rfl | rfl | rfl | rfl | rfl | rfl | rfl | rfl | rfl | rfl | rfl | rfl | rfl | rfl | rfl | rfl | rfl | rfl<;>simp[ByteArray.toList,ByteArray.toList.loop,ByteArray.size,ByteArray.get!]<;>decide
 rw[qdI]
 intro h
 have:=beq_iff_eq.1 h
 rw[←this] at hl
 have h2:=figC i hi
 have e:(c::figs i).getD 1 0=(figs i).getD 0 0:=rfl
 rw[e] at hl
 exact absurd h2 (UInt8.not_lt.2 hl)
theorem qpR:∀(l seen:List ByteArray),(∀s∈l,qdQ s=true∧kwS s=false)→(seen++l).Pairwise (fun a b=>a.toList≠b.toList)→newS seen l=true
 | [],_,_,_=>rfl
 | s::l,seen,h,hp=>by
  have h1:=h s (List.mem_cons_self ..)
  have h2:inS s seen=false:=by
   rw[inS,List.any_eq_false]
   intro k hk he
   have:=(List.pairwise_append.1 hp).2.2 k hk s (List.mem_cons_self ..)
   exact this (beq_iff_eq.1 he).symm
  rw[newS,h1.1,h1.2,h2,qpR l (seen++[s]) (fun x hx=>h x (List.mem_cons_of_mem _ hx)) (by simpa using hp)]
  rfl
theorem qcI (c:UInt8)(n:Nat):(nmsS c n).length=n:=by simp[nmsS]
theorem qlE (c:UInt8){n:Nat}(hn:n≤12):(nmsS c n).Pairwise (fun a b=>a.toList≠b.toList):=by
 rw[nmsS,List.pairwise_map]
 refine List.Pairwise.imp_of_mem ?_ (List.nodup_range (n:=n))
 intro a b ha hb hab he
 rw[qdI,qdI] at he
 have:=List.mem_range.1 ha
 have:=List.mem_range.1 hb
 exact hab (qrR a (by omega) b (by omega) (by simpa using he))
theorem qd1 {c:UInt8}{n:Nat}{s:ByteArray}(h:s∈nmsS c n):∃i,i<n∧s=nmS c i:=by
 obtain⟨i,hi,rfl⟩:=List.mem_map.1 h
 exact⟨i,List.mem_range.1 hi,rfl⟩
theorem qlD {c d:UInt8}(h:c≠d){n m:Nat}{a b:ByteArray}(ha:a∈nmsS c n)(hb:b∈nmsS d m):a.toList≠b.toList:=by
 obtain⟨i,_,rfl⟩:=qd1 ha
 obtain⟨j,_,rfl⟩:=qd1 hb
 rw[qdI,qdI]
 intro e
 exact h (by simpa using (List.cons.inj e).1)
theorem names3 {a b c:Nat}(ha:a≤12)(hb:b≤12)(hc:c≤12):newS [] (nmsS 115 a++nmsS 112 b++[]++nmsS 114 c)=true:=by
 refine qpR _ _ (fun s hs=>?_) ?_
 ·simp only[List.append_nil,List.mem_append] at hs
  rcases hs with (hs | hs) | hs
  ·obtain⟨i,hi,rfl⟩:=qd1 hs
   exact⟨qjT _ rfl (by omega),qpT _ (by omega)⟩
  ·obtain⟨i,hi,rfl⟩:=qd1 hs
   exact⟨qjT _ rfl (by omega),qpT _ (by omega)⟩
  ·obtain⟨i,hi,rfl⟩:=qd1 hs
   exact⟨qjT _ rfl (by omega),qpT _ (by omega)⟩
 ·simp only[List.append_nil,List.nil_append]
  rw[List.pairwise_append,List.pairwise_append]
  refine⟨⟨qlE _ ha,qlE _ hb,fun x hx y hy=>qlD (by decide) hx hy⟩,qlE _ hc,fun x hx y hy=>?_⟩
  rcases List.mem_append.1 hx with hx | hx
  ·exact qlD (by decide) hx hy
  ·exact qlD (by decide) hx hy
theorem qbX (c:List Int)(j:Nat)(b:Int):(bump c j b).length=c.length:=by simp[bump]
theorem qcT (c:List Int)(j:Nat)(b:Int)(x:Nat)(hx:x<c.length):(bump c j b).getD x 0=c.getD x 0+(if x=j then b else 0):=by
 unfold bump
 by_cases h:x=j
 ·subst h
  simp[List.getD_eq_getElem?_getD,hx]
 ·simp[List.getD_eq_getElem?_getD,Ne.symm h,h]
theorem qaV (n j:Nat):(qaN n j).length=n:=by simp[qaN]
theorem qbO (n j x:Nat)(hx:x<n):(qaN n j).getD x 0=if x=j then 1 else 0:=by
 unfold qaN
 by_cases h:x=j
 ·subst h
  simp[List.getD_eq_getElem?_getD,hx]
 ·simp[List.getD_eq_getElem?_getD,Ne.symm h,h,hx]
theorem qjd (p:Pg)(c:List Int)(e:Ev):(doC p c e).length=c.length:=by
 unfold doC
 simp only
 split<;>split<;>simp[qbX]
def difE (p:Pg)(e:Ev)(x:Nat):Int:=
 (if x=evNo p e then -1 else 0)+(if e.nxt≥0∧x=plNo p e.th.toNat e.nxt.toNat then 1 else 0)+(if ((p.ths.getD e.th.toNat default).lines.getD e.ln.toNat default).k=5∧x=plNo p ((p.ths.getD e.th.toNat default).lines.getD e.ln.toNat default).a.toNat 0 then 1 else 0)
theorem qjc (p:Pg)(c:List Int)(e:Ev)(x:Nat)(hx:x<c.length):(doC p c e).getD x 0=c.getD x 0+difE p e x:=by
 unfold doC difE evNo
 simp only
 generalize (p.ths.getD e.th.toNat default).lines.getD e.ln.toNat default=l
 by_cases h1:e.nxt≥0<;>by_cases h2:l.k=5
 ·rw[if_pos h2,if_pos h1,qcT _ _ _ _ (by simpa [qbX] using hx),qcT _ _ _ _ (by simpa [qbX] using hx),qcT _ _ _ _ hx]
  simp only[h1,h2,true_and];omega
 ·rw[if_neg h2,if_pos h1,qcT _ _ _ _ (by simpa [qbX] using hx),qcT _ _ _ _ hx]
  simp only[h1,h2,true_and,false_and,if_false];omega
 ·rw[if_pos h2,if_neg h1,qcT _ _ _ _ (by simpa [qbX] using hx),qcT _ _ _ _ hx]
  simp only[h1,h2,true_and,false_and,if_false];omega
 ·rw[if_neg h2,if_neg h1,qcT _ _ _ _ hx]
  simp only[h1,h2,false_and,if_false];omega
theorem qmk (p:Pg)(e:Ev)(x:Nat):(if x=evNo p e then (-1:Int) else 0)≤difE p e x∧difE p e x≤2+(if x=evNo p e then (-1:Int) else 0):=by
 unfold difE
 split<;>split<;>split<;>omega
structure MgOk (p:Pg) (x:Int×Ev):Prop where
 from_:0≤x.1∧x.1<p.vals
 pl:∃i k,IsPl p i k∧x.2∈evL p x.1 i k∧EvOk p x.1 i k x.2
theorem qfn {p:Pg}(hp:PgOk p):∀x∈mngs p,MgOk p x:=by
 intro x hx
 obtain⟨i,hi,hx⟩:=List.mem_flatMap.1 hx
 obtain⟨v,hv,hx⟩:=List.mem_flatMap.1 hx
 obtain⟨e,he,rfl⟩:=List.mem_map.1 hx
 have h1:i<(plcs p).length:=by simpa [List.mem_range'_1] using hi
 have h2:v<p.vals.toNat:=by simpa [List.mem_range'_1] using hv
 exact⟨⟨by simp,by simp;omega⟩,_,_,qcJ h1,he,qo9 hp (qcJ h1) e he⟩
theorem MgOk.val {p:Pg}{x:Int×Ev}(h:MgOk p x):0≤x.2.val∧x.2.val<p.vals:=by
 obtain⟨i,k,_,_,he⟩:=h.pl
 rcases he.val with e | e
 ·rw[e];exact h.from_
 ·exact e
theorem EvOk.no {p:Pg}{v:Int}{i k:Nat}{e:Ev}(h:EvOk p v i k e):evNo p e=plNo p i k:=by rw[evNo,h.th,h.ln];simp
theorem MgOk.no {p:Pg}{x:Int×Ev}(h:MgOk p x):evNo p x.2<(plcs p).length:=by
 obtain⟨i,k,hi,_,he⟩:=h.pl
 rw[he.no];exact qcS hi
theorem qmU {p:Pg}{x:Int×Ev}(r:Nat)(j:Nat)(hj:j<(plcs p).length):0≤(mrl p r x).give.getD j 0∧(mrl p r x).give.getD j 0≤2:=by
 have h1:=qjc p (qaN (plcs p).length (evNo p x.2)) x.2 j (by rw[qaV];exact hj)
 have h2:=qbO (plcs p).length (evNo p x.2) j hj
 have h3:=qmk p x.2 j
 simp only[mrl]
 rw[h1,h2]
 by_cases e:j=evNo p x.2
 ·simp only[if_pos e] at h3 ⊢;omega
 ·simp only[if_neg e] at h3 ⊢;omega
theorem qfH {v:List Int}{P:Int→Prop}(h:∀j,j<v.length→P (v.getD j 0)):∀x∈v,P x:=by
 intro x hx
 obtain⟨j,hj,rfl⟩:=List.getElem_of_mem hx
 have:=h j hj
 simpa [List.getD_eq_getElem?_getD,hj] using this
theorem qmV {p:Pg}{x:Int×Ev}(r:Nat)(j:Nat)(hj:j<(plcs p).length):0≤(mrl p r x).need.getD j 0∧(mrl p r x).need.getD j 0≤1:=by
 simp only[mrl]
 rw[qbO _ _ _ hj];split<;>omega
theorem qjQ (p:Pg)(r:Nat)(x:Int×Ev):(mrl p r x).need.length=(plcs p).length∧(mrl p r x).give.length=(plcs p).length:=by
 simp[mrl,qaV,qjd]
theorem qfm {p:Pg}{r:Rl}(h:r∈(mdl p).rules):∃j x,x∈mngs p∧r=mrl p j x:=by
 obtain⟨j,hj,rfl⟩:=List.getElem_of_mem h
 simp only[mdl,List.length_mapIdx] at hj
 exact⟨j,(mngs p)[j],List.getElem_mem hj,by simp[mdl]⟩
theorem qpK (p:Pg):(mdl p).rules.map (·.name)=nmsS 114 (mngs p).length:=by
 apply List.ext_getElem (by simp[mdl,nmsS])
 intro j h1 h2
 simp[mdl,nmsS,mrl]
theorem qnF {m:Md}(hk:m.kind=1)(hs:1≤m.states.length∧m.states.length≤8)(hn:1≤m.places.length∧m.places.length≤6):qcC (qa9 m)=0:=by
 rw[qf4 hk]
 have:m.places.length=1∨m.places.length=2∨m.places.length=3∨m.places.length=4∨m.places.length=5∨m.places.length=6:=by omega
 rcases this with h | h | h | h | h | h<;>rw[h]<;>simp[qcC,qaM,qbi,qaU,List.replicate]<;>omega
theorem qoI {m:Md}(hk:m.kind=1)(hs:1≤m.states.length∧m.states.length≤8)(hn:1≤m.places.length∧m.places.length≤6){v:List Int}(hv:v.length=m.places.length)(hf:v.all fin1=true)(hst:m.start=cfV 0 v):qbF m=true:=by
 have hc:=qnF hk hs hn
 have hsz:qcb (cfV 0 v) 128≤128:=by
  rw[cfV,qcb,qdj,if_pos (by omega)]
  have h1:qcb (natV 0) (128 - 1)=1:=by simp[qcb,qdj]
  rw[h1]
  show qdj (v.map natV) 2 128≤128
  rw[qh4 128 v 2 (by omega)];omega
 have hof:ofV (qa9 m) (cfV 0 v)=true:=by
  rw[qf4 hk,ofV,if_neg (by omega),if_neg (by omega),if_neg (by omega),if_pos rfl,←hv]
  have hl:ofV (qaU m.states.length) (natV 0)=true:=by
   simp[qaU,ofV,natV,V.n,V.kids]
   omega
  simp only[cfV,V.n,V.kids,qd2,qhT,hl,hf]
  simp
 rw[qbF,if_neg (by omega),hst,qdt,hc,hof,decide_eq_true hsz];rfl
theorem qta (n j:Nat):(qaN n j).all fin1=true:=by
 rw[List.all_eq_true]
 refine qfH fun x hx=>?_
 rw[qaV] at hx
 rw[qbO n j x hx]
 split<;>simp[fin1]
theorem qpJ {p:Pg}(hp:PgOk p)(hr:(mngs p).length≤12):qbm (mdl p)=0:=by
 have hv:=hp.vals
 have hn:(plcs p).length≤6:=by rw[qbh];exact hp.six
 have hn1:1≤(plcs p).length:=by
  rw[qbh]
  have:=qhO p.ths fun t ht=>(hp.th t ht).pos
  have:=hp.pos
  omega
 have es:(mdl p).states.length=p.vals.toNat:=by simp[mdl,qcI]
 have ep:(mdl p).places.length=(plcs p).length:=by simp[mdl,qcI]
 have er:(mdl p).rules.length=(mngs p).length:=by simp[mdl]
 have c1:btw (mdl p).kind 1 6=true:=rfl
 have c2:qbg (mdl p)=true:=by
  simp only[qbg,es,ep,er]
  simp[mdl,limC,btw];omega
 have c3:qdq (mdl p)=true:=rfl
 have c4:qhR (mdl p)=true:=by
  rw[qhR,qbz,qpK]
  exact names3 (by omega) (by omega) hr
 have c5:((mdl p).rules.any fun r=>!qcq (mdl p) r)=false:=by
  rw[List.any_eq_false]
  intro r hr'
  obtain⟨j,x,hx,rfl⟩:=qfm hr'
  have hm:=qfn hp x hx
  have hl:=qjQ p j x
  have hn:(mrl p j x).need.all qfd=true:=List.all_eq_true.2 (qfH fun y hy=>by rw[hl.1] at hy;have:=qmV (p:=p) (x:=x) j y hy;simp only[qfd,btw,Bool.and_eq_true,decide_eq_true_eq];omega)
  have hg:(mrl p j x).give.all qfd=true:=List.all_eq_true.2 (qfH fun y hy=>by rw[hl.2] at hy;have:=qmU (p:=p) (x:=x) j y hy;simp only[qfd,btw,Bool.and_eq_true,decide_eq_true_eq];omega)
  have hb:qke (mdl p) (mrl p j x)=true:=by
   have h1:=hm.from_
   have h2:=hm.val
   simp only[qke,es,btw]
   simp[mrl];omega
  have hch:qdl (mdl p) (mrl p j x)=true:=by
   simp only[qdl,ep,hn,hg,hl.1,hl.2];simp
  have hmv:qgF (mdl p) (mrl p j x)=true:=by simp[qgF,mrl]
  have hon:qlN (mdl p).kind (mrl p j x)=mrl p j x:=rfl
  have hsm:qoh (mrl p j x) (mrl p j x)=true:=by simp[qoh,qiV,qlZ]
  have:qcq (mdl p) (mrl p j x)=true:=by rw[qcq,hb,hon,hsm,qnT,if_pos (show (mdl p).kind=1 from rfl),hch,hmv];rfl
  rw[this];simp
 have c6:qbF (mdl p)=true:=qoI rfl (by omega) (by omega) (by rw[ep];exact qaV _ _) (qta _ _) rfl
 rw[qbm,c1,c2,c3,c4,c5,c6];simp
theorem qjN {p:Pg}(hp:PgOk p)(hr:(mngs p).length≤12):(mdl p).fit:=by
 have hv:=hp.vals
 have hn:(plcs p).length≤6:=by rw[qbh];exact hp.six
 refine⟨by simp[mdl,qcI];omega,by simp[mdl,qcI];omega,by simp[mdl],by simp[mdl],by simp[mdl];omega,fun r hr'=>?_,?_,fun s hs=>?_,rfl⟩
 ·obtain⟨j,x,hx,rfl⟩:=qfm hr'
  have hl:=qjQ p j x
  refine⟨by omega,by omega,by simp[mrl],by simp[mrl],by simp[mrl],by simp[mrl],by simp[mrl],?_⟩
  have:=qjS 114 j
  simp only[mrl];omega
 ·exact qct _ _ (by rw[qaV];omega)
 ·simp only[mdl,List.append_nil,List.mem_append] at hs
  rcases hs with h | h
  ·obtain⟨i,_,rfl⟩:=qd1 h
   have:=qjS 115 i;omega
  ·obtain⟨i,_,rfl⟩:=qd1 h
   have:=qjS 112 i;omega
theorem qfM {p:Pg}(hp:PgOk p)(hr:(mngs p).length≤12):PlainM (mdl p) (plcs p).length:=by
 have hn:(plcs p).length≤6:=by rw[qbh];exact hp.six
 refine⟨qjN hp hr,rfl,qpJ hp hr,fun r h=>?_,fun r h=>?_,fun r h=>?_,by simp[mdl,qcI],hn⟩
 ·obtain⟨j,x,hx,rfl⟩:=qfm h
  have hl:=qjQ p j x
  refine⟨hl,fun y=>?_⟩
  by_cases hy:y<(plcs p).length
  ·have h1:=qmV (p:=p) (x:=x) j y hy
   have h2:=qmU (p:=p) (x:=x) j y hy
   omega
  ·rw[qdY (by omega),qdY (by omega)];omega
 ·obtain⟨j,x,hx,rfl⟩:=qfm h
  rfl
 ·obtain⟨j,x,hx,rfl⟩:=qfm h
  have:=(qfn hp x hx).val
  simp[mdl,qcI,mrl];omega
structure StOk (p:Pg) (B:Int) (v:Int) (c:List Int):Prop where
 val:0≤v∧v<p.vals
 len:c.length=(plcs p).length
 ent:∀j,0≤c.getD j 0∧c.getD j 0≤B
theorem StOk.fin {p:Pg}{B v:Int}{c:List Int}(h:StOk p B v c)(hB:B≤1048576):c.all finN=true:=by
 rw[List.all_eq_true]
 refine qfH fun j hj=>?_
 have:=h.ent j
 simp only[finN,Bool.and_eq_true,decide_eq_true_eq];omega
theorem StOk.rgt {p:Pg}(hp:okP p=true){B v:Int}{c:List Int}(h:StOk p B v c)(hB:B≤1048576):rgtP p v c=0:=by
 have:=h.val
 rw[rgtP,if_neg (by rw[hp];simp),if_neg (by omega),if_neg (by rw[h.fin hB];simp),if_neg (fun e=>e h.len)]
theorem qo2 {p:Pg}{e:Ev}{B:Int}{c:List Int}(hc:∀j,0≤c.getD j 0∧c.getD j 0≤B)(hp:c.getD (evNo p e) 0 > 0)(hB:0≤B)(j:Nat):0≤(doC p c e).getD j 0∧(doC p c e).getD j 0≤B+2:=by
 by_cases hj:j<c.length
 ·rw[qjc p c e j hj]
  have h1:=qmk p e j
  have h2:=hc j
  split at h1
  ·rename_i e;subst e;omega
  ·omega
 ·rw[qdY (by rw[qjd];omega)];omega
theorem flatMap_one {A:Type}(L:Nat→List A)(k:Nat):∀(n a:Nat),(List.range' a n).flatMap (fun w=>if w=k then L w else [])=if a≤k∧k<a+n then L k else []
 | 0,a=>by simp;omega
 | n+1,a=>by
  rw[List.range'_succ,List.flatMap_cons,flatMap_one L k n (a+1)]
  by_cases h:a=k
  ·subst h
   rw[if_pos rfl,if_neg (by omega),if_pos (by omega),List.append_nil]
  ·rw[if_neg h,List.nil_append]
   by_cases h2:a+1≤k∧k<a+1+n
   ·rw[if_pos h2,if_pos (by omega)]
   ·rw[if_neg h2,if_neg (by omega)]
theorem flatMap_congr' {A B:Type}{f g:A→List B}:∀ {l:List A},(∀x∈l,f x=g x)→l.flatMap f=l.flatMap g
 | [],_=>rfl
 | x::l,h=>by rw[List.flatMap_cons,List.flatMap_cons,h x (List.mem_cons_self ..),flatMap_congr' fun y hy=>h y (List.mem_cons_of_mem _ hy)]
def canM (p:Pg)(v:Int)(c:List Int)(x:Int×Ev):Bool:=(x.1==v)&&decide (c.getD (evNo p x.2) 0 > 0)
theorem qe6 {p:Pg}(hp:PgOk p){v:Int}(hv:0≤v∧v<p.vals)(c:List Int):qaY p v c=((mngs p).filter (canM p v c)).map (·.2):=by
 rw[qaY,mngs,List.filter_flatMap,List.map_flatMap]
 refine flatMap_congr' fun i hi=>?_
 have hi':i<(plcs p).length:=by simpa [List.mem_range'_1] using hi
 rw[List.filter_flatMap,List.map_flatMap]
 have key:∀w∈List.range' 0 p.vals.toNat,(((evL p (w:Nat) ((plcs p).getD i (0,0)).1 ((plcs p).getD i (0,0)).2).map fun e=>(((w:Nat):Int),e)).filter (canM p v c)).map (·.2)=if w=v.toNat then stE p v c i else []:=by
  intro w hw
  have hno:∀e∈evL p (w:Nat) ((plcs p).getD i (0,0)).1 ((plcs p).getD i (0,0)).2,evNo p e=i:=fun e he=>by
   rw[(qo9 hp (qcJ hi') e he).no,quq hi']
  by_cases hwv:w=v.toNat
  ·rw[if_pos hwv]
   have ev:((w:Nat):Int)=v:=by omega
   rw[ev] at hno ⊢
   unfold stE
   by_cases hc:c.getD i 0 > 0
   ·rw[if_pos hc,List.filter_eq_self.2,List.map_map]
    ·exact List.map_id _
    ·intro x hx
     obtain⟨e,he,rfl⟩:=List.mem_map.1 hx
     simp only[canM,beq_self_eq_true,Bool.true_and]
     rw[hno e he];exact decide_eq_true hc
   ·rw[if_neg hc,List.filter_eq_nil_iff.2]
    ·rfl
    ·intro x hx
     obtain⟨e,he,rfl⟩:=List.mem_map.1 hx
     simp only[canM,beq_self_eq_true,Bool.true_and]
     rw[hno e he];simpa using hc
  ·rw[if_neg hwv,List.filter_eq_nil_iff.2]
   ·rfl
   ·intro x hx
    obtain⟨e,he,rfl⟩:=List.mem_map.1 hx
    have:(((w:Nat):Int)==v)=false:=by rw[beq_eq_false_iff_ne];omega
    simp only[canM,this,Bool.false_and];simp
 rw[flatMap_congr' key,flatMap_one (fun _=>stE p v c i),if_pos (by omega)]
theorem qjP {p:Pg}(hp:PgOk p){q:Nat}(hq:q<(mngs p).length)(e:Int×Ev):MgOk p ((mngs p).getD q e):=by
 have:(mngs p).getD q e=(mngs p)[q]:=by simp[List.getD_eq_getElem?_getD,hq]
 rw[this];exact qfn hp _ (List.getElem_mem hq)
theorem qtk {p:Pg}(hp:PgOk p)(hok:okP p=true){x:Int×Ev}(hx:x∈mngs p){B s:Int}{v:List Int}(hB:0≤B∧B≤1000000)(h:StOk p B s v)(hc:canM p s v x=true):doP p s v x.2=(x.2.val,doC p v x.2,0)∧StOk p (B+2) x.2.val (doC p v x.2):=by
 have hm:=qfn hp x hx
 rw[canM,Bool.and_eq_true,decide_eq_true_eq,beq_iff_eq] at hc
 have hr:=fun j=>qo2 (e:=x.2) h.ent hc.2 hB.1 j
 have hst:StOk p (B+2) x.2.val (doC p v x.2):=⟨hm.val,by rw[qjd,h.len],hr⟩
 refine⟨?_,hst⟩
 have hin:(qaY p s v).any (fun y=>evB y x.2)=true:=by
  rw[List.any_eq_true]
  refine⟨x.2,?_,(qfh _ _).2 rfl⟩
  rw[qe6 hp h.val v]
  exact List.mem_map.2 ⟨x,List.mem_filter.2 ⟨hx,by rw[canM,hc.1,decide_eq_true hc.2];simp⟩,rfl⟩
 have hall:(doC p v x.2).all (fun y=>decide (y≤1048576))=true:=by
  rw[List.all_eq_true]
  exact qfH fun j hj=>decide_eq_true (by have:=hr j;omega)
 rw[doP,if_neg (by rw[h.rgt hok (by omega)];simp),if_neg (by rw[hin];simp),if_neg (by rw[hall];simp)]
def qih (vals nt n:Nat)(num:Int)(d:Dc):Lne×Dc:=
 let k:=1+(qao d 7).1
 let e:=(qao d 7).2
 if k=1∨k=2 then (⟨k,(qao e vals).1,num⟩,(qao e vals).2)
 else if k=3∨k=4 then (⟨k,(qao e n).1,num⟩,(qao e n).2)
 else if k=5 then (⟨k,(qao e nt).1,num⟩,(qao e nt).2)
 else (⟨k,0,num⟩,e)
def qby (vals nt n:Nat):Nat→Int→Dc→List Lne×Dc
 | 0,_,d=>([],d)
 | f+1,num,d=>((qih vals nt n (num+1) d).1::(qby vals nt n f (num+1) (qih vals nt n (num+1) d).2).1,(qby vals nt n f (num+1) (qih vals nt n (num+1) d).2).2)
def cntD (d:Dc):Nat:=(1+(qao d 3).1).toNat
def thsD (vals nt:Nat):List ByteArray→Int→Dc→List Th×Dc
 | [],_,d=>([],d)
 | s::ss,num,d=>
  (⟨s,(qby vals nt (cntD d) (cntD d) (num+1) (qao d 3).2).1⟩::(thsD vals nt ss (num+1+cntD d+1) (qby vals nt (cntD d) (cntD d) (num+1) (qao d 3).2).2).1,(thsD vals nt ss (num+1+cntD d+1) (qby vals nt (cntD d) (cntD d) (num+1) (qao d 3).2).2).2)
def tnm (b:Nat):List ByteArray:=[(⟨#[109,97,105,110]⟩:ByteArray),⟨#[119,111,114,107]⟩].take (1+b)
def prD (d:Dc):Pg×Dc:=
 let a:=(qao d 2).1.toNat
 let b:=(qao (qao d 2).2 2).1.toNat
 let R:=thsD (1+a) (1+b) (tnm b) 1 (qao (qao d 2).2 2).2
 (⟨((1+a:Nat):Int),R.1⟩,R.2)
theorem qsc {vals nt n:Nat}(h1:0<vals)(h2:0<nt)(h3:0<n)(num:Int){d:Dc}(hd:d.ok){p:Pg}(hv:p.vals=vals)(ht:p.ths.length=nt):qfL p n (qih vals nt n num d).1 num=true∧(qih vals nt n num d).2.ok:=by
 have r:=qa6 hd (n:=7) (by omega)
 have ok1:=qaL hd 7
 have r1:=qa6 ok1 (n:=(vals:Nat)) (by omega)
 have r2:=qa6 ok1 (n:=(nt:Nat)) (by omega)
 have r3:=qa6 ok1 (n:=(n:Nat)) (by omega)
 have k1:=qaL ok1 (vals:Nat)
 have k2:=qaL ok1 (nt:Nat)
 have k3:=qaL ok1 (n:Nat)
 unfold qih
 simp only
 by_cases e1:1+(qao d 7).1=1∨1+(qao d 7).1=2
 ·rw[if_pos e1]
  refine⟨?_,k1⟩
  simp only[qfL,qcV,if_pos e1,hv,beq_self_eq_true,Bool.and_true,Bool.and_eq_true,decide_eq_true_eq];exact r1
 ·rw[if_neg e1]
  by_cases e2:1+(qao d 7).1=3∨1+(qao d 7).1=4
  ·rw[if_pos e2]
   refine⟨?_,k3⟩
   simp only[qfL,qcV,if_neg e1,if_pos e2,beq_self_eq_true,Bool.and_true,Bool.and_eq_true,decide_eq_true_eq];exact r3
  ·rw[if_neg e2]
   by_cases e3:1+(qao d 7).1=5
   ·rw[if_pos e3]
    refine⟨?_,k2⟩
    simp only[qfL,qcV,if_neg e1,if_neg e2,if_pos e3,ht,beq_self_eq_true,Bool.and_true,Bool.and_eq_true,decide_eq_true_eq];exact r2
   ·rw[if_neg e3]
    have e4:1+(qao d 7).1=6∨1+(qao d 7).1=7:=by omega
    refine⟨?_,ok1⟩
    simp only[qfL,qcV,if_neg e1,if_neg e2,if_neg e3,if_pos e4,beq_self_eq_true];rfl
theorem qdG {vals nt n:Nat}(h1:0<vals)(h2:0<nt)(h3:0<n){p:Pg}(hv:p.vals=vals)(ht:p.ths.length=nt):∀(f:Nat) (num:Int) (d:Dc),d.ok→qc8 p n (qby vals nt n f num d).1 num=true∧(qby vals nt n f num d).2.ok∧(qby vals nt n f num d).1.length=f
 | 0,_,d,h=>⟨rfl,h,rfl⟩
 | f+1,num,d,h=>by
  have hl:=qsc h1 h2 h3 (num+1) h hv ht
  have ih:=qdG h1 h2 h3 hv ht f (num+1) _ hl.2
  refine⟨?_,ih.2.1,?_⟩
  ·rw[qby,qc8,hl.1,ih.1];rfl
  ·rw[qby,List.length_cons,ih.2.2]
theorem qka (vals nt:Nat):∀(ss:List ByteArray) (num:Int) (d:Dc),(thsD vals nt ss num d).1.length=ss.length
 | [],_,_=>rfl
 | s::ss,num,d=>by rw[thsD,List.length_cons,qka vals nt ss,List.length_cons]
theorem qdy (a b c d:UInt8):(⟨#[a,b,c,d]⟩:ByteArray).toList=[a,b,c,d]:=by
 simp[ByteArray.toList,ByteArray.toList.loop,ByteArray.size,ByteArray.get!]
theorem rsv4 (a b c d:UInt8):inS ⟨#[a,b,c,d]⟩ rsvS=false:=by
 rw[inS,List.any_eq_false]
 intro k hk
 have hl:k.toList.length≠4:=by
  simp only[rsvS,List.mem_cons,List.not_mem_nil,or_false] at hk
  rcases hk with rfl | rfl | rfl<;>simp[ByteArray.toList,ByteArray.toList.loop,ByteArray.size,ByteArray.get!]
 rw[qdy]
 intro h
 have:=beq_iff_eq.1 h
 rw[←this] at hl
 simp at hl
theorem qgp:qcr ⟨#[109,97,105,110]⟩=true:=by
 have hw:qdQ ⟨#[109,97,105,110]⟩=true:=by
  rw[qdQ,qdy,qeM];rfl
 rw[qcr,hw,rsv4];rfl
theorem qos:qcr ⟨#[119,111,114,107]⟩=true:=by
 have hw:qdQ ⟨#[119,111,114,107]⟩=true:=by
  rw[qdQ,qdy,qeM];rfl
 rw[qcr,hw,rsv4];rfl
theorem qgR {d:Dc}(h:d.ok):1≤cntD d∧cntD d≤3:=by
 have:=qa6 h (n:=3) (by omega)
 unfold cntD;omega
theorem qd9 {d:Dc}(h:d.ok):okP (prD d).1=true∧(prD d).2.ok∧(prD d).1.vals≤2:=by
 have r1:=qa6 h (n:=2) (by omega)
 have ok1:=qaL h 2
 have r2:=qa6 ok1 (n:=2) (by omega)
 have ok2:=qaL ok1 2
 have hlen:(prD d).1.ths.length=1+(qao (qao d 2).2 2).1.toNat:=by
  simp only[prD,qka,tnm,List.length_take];simp;omega
 have hvl:(prD d).1.vals=((1+(qao d 2).1.toNat:Nat):Int):=rfl
 obtain⟨p,hp⟩:∃p,(prD d).1=p:=⟨_,rfl⟩
 have hth:p.ths=(thsD (1+(qao d 2).1.toNat) (1+(qao (qao d 2).2 2).1.toNat) (tnm (qao (qao d 2).2 2).1.toNat) 1 (qao (qao d 2).2 2).2).1:=by rw[←hp];rfl
 have hde:(prD d).2=(thsD (1+(qao d 2).1.toNat) (1+(qao (qao d 2).2 2).1.toNat) (tnm (qao (qao d 2).2 2).1.toNat) 1 (qao (qao d 2).2 2).2).2:=rfl
 rw[hp] at hlen hvl ⊢
 rw[hde]
 generalize (qao (qao d 2).2 2).2=e at*
 have hb:(qao (qao d 2).2 2).1.toNat=0∨(qao (qao d 2).2 2).1.toNat=1:=by omega
 have ha:1+(qao d 2).1.toNat≤2:=by omega
 generalize hA:1+(qao d 2).1.toNat=A at*
 have hA0:0<A:=by omega
 have c1:=qgR ok2
 rcases hb with hb | hb<;>rw[hb] at hth hlen ⊢
 ·have l1:=qdG (n:=cntD e) hA0 (by omega) (by omega) hvl hlen (cntD e) (1+1) (qao e 3).2 (qaL ok2 3)
  have ht:tnm 0=[⟨#[109,97,105,110]⟩]:=rfl
  rw[ht,thsD,thsD] at hth ⊢
  simp only at hth ⊢
  refine⟨?_,l1.2.1,by omega⟩
  rw[okP,hth]
  simp only[thsB,l1.2.2,l1.1,qgp,inS,List.any_nil,hvl]
  have hne:(qby A (1+0) (cntD e) (cntD e) (1+1) (qao e 3).2).1.isEmpty=false:=by
   cases hx:(qby A (1+0) (cntD e) (cntD e) (1+1) (qao e 3).2).1 with
   | nil=>rw[hx] at l1;simp at l1;omega
   | cons x l=>rfl
  rw[hne]
  simp;omega
 ·have l1:=qdG (n:=cntD e) hA0 (by omega) (by omega) hvl hlen (cntD e) (1+1) (qao e 3).2 (qaL ok2 3)
  have ht:tnm 1=[⟨#[109,97,105,110]⟩,⟨#[119,111,114,107]⟩]:=rfl
  obtain⟨e2,he2⟩:∃e2,(qby A (1+1) (cntD e) (cntD e) (1+1) (qao e 3).2).2=e2:=⟨_,rfl⟩
  rw[ht,thsD,thsD,thsD] at hth ⊢
  simp only[he2] at hth l1 ⊢
  have c2:=qgR l1.2.1
  have l2:=qdG (n:=cntD e2) hA0 (by omega) (by omega) hvl hlen (cntD e2) (1+1+cntD e+1+1) (qao e2 3).2 (qaL l1.2.1 3)
  refine⟨?_,l2.2.1,by omega⟩
  rw[okP,hth]
  simp only[thsB,l1.2.2,l1.1,l2.2.2,l2.1,qgp,qos,inS,List.any_nil,List.any_cons,List.nil_append,hvl]
  have hne:(qby A (1+1) (cntD e) (cntD e) (1+1) (qao e 3).2).1.isEmpty=false:=by
   cases hx:(qby A (1+1) (cntD e) (cntD e) (1+1) (qao e 3).2).1 with
   | nil=>rw[hx] at l1;simp at l1;omega
   | cons x l=>rfl
  have hne2:(qby A (1+1) (cntD e2) (cntD e2) (1+1+cntD e+1+1) (qao e2 3).2).1.isEmpty=false:=by
   cases hx:(qby A (1+1) (cntD e2) (cntD e2) (1+1+cntD e+1+1) (qao e2 3).2).1 with
   | nil=>rw[hx] at l2;simp at l2;omega
   | cons x l=>rfl
  rw[hne,hne2,qdy,qdy]
  simp;omega
def isF (p:Pg)(i:Nat):Bool:=((p.ths.getD ((plcs p).getD i (0,0)).1 default).lines.getD ((plcs p).getD i (0,0)).2 default).k==7
def tgL (p:Pg):List V:=(List.range' 0 p.vals.toNat).flatMap fun v=>((List.range (plcs p).length).reverse.filter (isF p)).map fun i=>cfV ((v:Nat):Int) (qaN (plcs p).length i)
def tgU (p:Pg):List V:=((List.range' 0 (plcs p).length).filter (isF p)).flatMap fun i=>(List.range' 0 p.vals.toNat).map fun v=>cfV ((v:Nat):Int) (qaN (plcs p).length i)
theorem qpQ {a b:Int}:cmpV (natV a) (natV b)<0↔a<b:=by
 rw[natV,natV,qlp]
 simp[cmpL]
theorem qmX {a b:Int}:natV a=natV b↔a=b:=by simp[natV]
theorem qiX (n:Nat):qaN (n+1) 0=1::List.replicate n 0:=rfl
theorem qgu (n i:Nat):qaN (n+1) (i+1)=0::qaN n i:=rfl
theorem qrk:∀(n i j:Nat),j<i→i<n→cmpL ((qaN n i).map natV) ((qaN n j).map natV)<0
 | 0,_,_,_,h=>by omega
 | n+1,0,_,h,_=>by omega
 | n+1,i+1,0,_,_=>by
  rw[qgu,qiX,List.map_cons,List.map_cons,qfz]
  exact .inl (qpQ.2 (by omega))
 | n+1,i+1,j+1,h,h2=>by
  rw[qgu,qgu,List.map_cons,List.map_cons,qfz]
  exact .inr ⟨rfl,qrk n i j (by omega) (by omega)⟩
theorem cf_lt {v w:Int}{n i j:Nat}(h:v<w∨(v=w∧j<i∧i<n)):cmpV (cfV v (qaN n i)) (cfV w (qaN n j))<0:=by
 rw[cfV,cfV,qlp]
 refine .inr ⟨rfl,.inr ⟨by simp[qaV],?_⟩⟩
 rw[qfz]
 rcases h with h | ⟨rfl,h1,h2⟩
 ·exact .inl (qpQ.2 h)
 ·exact .inr ⟨rfl,qrk n i j h1 h2⟩
theorem qra (p:Pg):(tgL p).Pairwise fun a b=>cmpV a b<0:=by
 rw[tgL,List.pairwise_flatMap]
 refine⟨fun v _=>?_,?_⟩
 ·rw[List.pairwise_map]
  refine List.Pairwise.imp_of_mem ?_ (List.Pairwise.filter _ (List.pairwise_reverse.2 (List.pairwise_lt_range (n:=(plcs p).length))))
  intro a b ha hb hab
  have:=(List.mem_filter.1 ha).1
  rw[List.mem_reverse,List.mem_range] at this
  exact cf_lt (.inr ⟨rfl,hab,this⟩)
 ·refine List.Pairwise.imp ?_ (List.pairwise_lt_range' (s:=0) (n:=p.vals.toNat))
  intro v w hvw x hx y hy
  obtain⟨i,_,rfl⟩:=List.mem_map.1 hx
  obtain⟨j,_,rfl⟩:=List.mem_map.1 hy
  exact cf_lt (.inl (by omega))
theorem lt_asc {l:List V}(h:l.Pairwise fun a b=>cmpV a b<0):Asc l:=h.imp fun {a b} hab=>by
 have:=qcU a b
 omega
theorem qsg {l:List V}(h:l.Pairwise fun a b=>cmpV a b<0):l.Nodup:=h.imp fun {a b} hab e=>by
 rw[e,qei] at hab;omega
theorem qjO (p:Pg)(x:V):x∈tgL p↔∃v i:Nat,v<p.vals.toNat∧i<(plcs p).length∧isF p i=true∧x=cfV ((v:Nat):Int) (qaN (plcs p).length i):=by
 simp only[tgL,List.mem_flatMap,List.mem_map,List.mem_filter,List.mem_reverse,List.mem_range,List.mem_range'_1]
 constructor
 ·rintro ⟨v,hv,i,⟨h1,h2⟩,rfl⟩
  exact⟨v,i,by omega,h1,h2,rfl⟩
 ·rintro ⟨v,i,h1,h2,h3,rfl⟩
  exact⟨v,by omega,i,⟨h2,h3⟩,rfl⟩
theorem qpL (p:Pg)(x:V):x∈tgU p↔∃v i:Nat,v<p.vals.toNat∧i<(plcs p).length∧isF p i=true∧x=cfV ((v:Nat):Int) (qaN (plcs p).length i):=by
 simp only[tgU,List.mem_flatMap,List.mem_map,List.mem_filter,List.mem_range'_1]
 constructor
 ·rintro ⟨i,⟨h1,h2⟩,v,hv,rfl⟩
  exact⟨v,i,by omega,by omega,h2,rfl⟩
 ·rintro ⟨v,i,h1,h2,h3,rfl⟩
  exact⟨i,⟨by omega,h3⟩,v,by omega,rfl⟩
theorem qrj {n i j:Nat}(hi:i<n)(h:qaN n i=qaN n j):i=j:=by
 have h1:=qbO n i i hi
 have h2:=qbO n j i hi
 rw[h,h2,if_pos rfl] at h1
 split at h1
 ·assumption
 ·omega
theorem qgE:∀ {a b:List Int},a.map natV=b.map natV→a=b
 | [],[],_=>rfl
 | x::a,y::b,h=>by
  rw[List.map_cons,List.map_cons,List.cons.injEq] at h
  rw[qmX.1 h.1,qgE h.2]
 | [],_::_,h=>by cases h
 | _::_,[],h=>by cases h
theorem qoN {v w:Int}{a b:List Int}(h:cfV v a=cfV w b):v=w∧a=b:=by
 rw[cfV,cfV,V.mk.injEq,List.cons.injEq] at h
 exact⟨qmX.1 h.2.1,qgE h.2.2⟩
theorem qrb (p:Pg):(tgU p).Nodup:=by
 rw[tgU,List.Nodup,List.pairwise_flatMap]
 refine⟨fun i _=>?_,?_⟩
 ·rw[List.pairwise_map]
  refine List.Pairwise.imp ?_ (List.pairwise_lt_range' (s:=0) (n:=p.vals.toNat))
  intro a b hab e
  have:=(qoN e).1;omega
 ·refine List.Pairwise.imp_of_mem ?_ (List.Pairwise.filter _ (List.pairwise_lt_range' (s:=0) (n:=(plcs p).length)))
  intro a b ha hb hab x hx y hy e
  obtain⟨v,_,rfl⟩:=List.mem_map.1 hx
  obtain⟨w,_,rfl⟩:=List.mem_map.1 hy
  have:=(List.mem_range'_1.1 (List.mem_filter.1 ha).1).2
  have:=qrj (by omega) (qoN e).2
  omega
theorem qrc (p:Pg):qlc (tgU p)=tgL p:=by
 have hp:(tgL p).Perm (tgU p):=(List.perm_ext_iff_of_nodup (qsg (qra p)) (qrb p)).2 fun x=>by rw[qjO,qpL]
 exact (qns hp (lt_asc (qra p))).symm
end
end Go.Proofs.YtkbjpglehdhjfaaGreatDoor
