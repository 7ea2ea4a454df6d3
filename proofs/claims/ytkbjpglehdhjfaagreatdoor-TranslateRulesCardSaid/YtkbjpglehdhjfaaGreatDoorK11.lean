/- Contracts of functions of the program, for all arguments that they name. -/
import Derived.Below
import Derived.Test.YtkbjpglehdhjfaaGreatDoorK10
namespace Go.Proofs.YtkbjpglehdhjfaaGreatDoor
set_option linter.unusedVariables false
section
open Go.RowKit
set_option maxHeartbeats 2000000
structure Dc where
 seeds:List Int
 at_:Nat
def qbT (l:List Int):List T:=l.map fun x=>.int .u8 x
theorem qkk (l:List Int):(qbT l).length=l.length:=by simp[qbT]
@[simp] theorem qaT (D:Nat→Bool)(l:List Int):clL D (qbT l)=true:=by
 induction l with
 | nil=>rfl
 | cons x l ih=>simpa [qbT,clL,T.cl] using ih
theorem qo7 (l:List Int)(i:Nat)(h:i<l.length):(qbT l).getD (i:Int).toNat .undef=.int .u8 (l.getD i 0):=by
 simp[qbT,List.getD_eq_getElem?_getD,h]
theorem qlr (l:List Int):sizedB 0 (qbT l)=true:=by
 rw[sizedB,List.all_eq_true]
 intro c hc
 obtain⟨x,_,rfl⟩:=List.mem_map.1 hc
 rfl
abbrev dcB (d:Dc):Slot:=.live ⟨93,[.list (qbT d.seeds),.int .i64 d.at_]⟩
abbrev dcR:T:=.ref 99999 2 0
structure Dc.ok (d:Dc):Prop where
 len:d.seeds.length≤200
 at_:d.at_≤d.seeds.length
 rng:∀j,0≤d.seeds.getD j 0∧d.seeds.getD j 0≤255
theorem qe8 {H:Heap}{D:Nat→Bool}(d:Dc):SlotFz H D (dcB d) (dcB d):=by
 refine SlotFz.liveS (by simp[clL,T.cl]) fun c hc=>?_
 simp only[List.mem_cons,List.not_mem_nil,or_false] at hc
 rcases hc with rfl | rfl<;>rfl
theorem ql7 {P:Program}{f:FuncId}{N:Nat}{ic:ICode}{rs:List (Nat×Option Nat)}{args:List T}{d d':Dc}{r:T}(h:FnOk P f N rs ic)(hn:args.length≤N)
 (hw:W P N ic (ofL (argL 0 args)) (hpL [(99999,dcB d)]) fun e env' H''=>(e=.ret∨e=.normal)∧∃x hl hl',resT env' H'' rs=some x∧H''=hpL hl∧Fz (hpL hl) (inL [99999]) x r∧LFz (hpL hl) [99999] hl hl'∧qaf [99999] hl'=[(99999,dcB d')]):TC P f args (hpL [(99999,dcB d)]) r (hpL [(99999,dcB d')]):=
 TC_fnF [99999] h hn rfl hw
theorem TC.fulD {P:Program}{f:FuncId}{xs:List T}{v:T}{i:Nat}{s s':Slot}(h:TC P f xs (hpL [(i,s)]) v (hpL [(i,s')])):TC P f xs (hp [(i,s)]) v ((hp [(i,s)]).upd [(i,s')]):=by
 rw[qmt [(i,s)] (by simp),show Heap.upd (hpL [(i,s)]) [(i,s')]=hpL [(i,s')] from by simp[qgv,qcG,qdc]];exact h
def newD (s:List Int):Dc:=⟨s.take 200,0⟩
theorem qeu {s:List Int}(h:∀j,0≤s.getD j 0∧s.getD j 0≤255):(newD s).ok:=by
 refine⟨by simp[newD];omega,Nat.zero_le _,fun j=>?_⟩
 by_cases hj:j<200
 ·have e:(s.take 200).getD j 0=s.getD j 0:=by simp[List.getD_eq_getElem?_getD,hj]
  simp only[newD];rw[e];exact h j
 ·have e:(s.take 200).getD j 0=0:=by simp[List.getD_eq_getElem?_getD,List.getElem?_take,hj]
  simp only[newD];rw[e];omega
theorem qey (s:List Int)(hl:s.length≤9223372036854775807):TC Tryz.prog 9 [.list (qbT s)] (hpL []) dcR (hpL [(99999,dcB (newD s))]):=by
 have hz:Int.toNat 0=0:=rfl
 have h200:Int.toNat 200=200:=rfl
 have hlen:=qkk s
 have hsz:=qlr s
 have key:∀t:List Int,t=s.take 200→TC Tryz.prog 9 [.list (qbT s)] (hpL []) (.ref 302 2 0) (hpL [(302,.live ⟨93,[.list (qbT t),.int .i64 0]⟩)]):=by
  intro t ht
  by_cases h:s.length≤200
  ·have hd:decide (((qbT s).length:Int) > 200)=false:=decide_eq_false (by omega)
   obtain rfl:t=s:=by rw[ht,List.take_of_length_le h]
   have fX:=@hd
   refine qi2 fn9 (by simp) ?_
   unfold i9
   simp only[argL]
   refine wR0 0 [0] fX ?_
   refine wR0 100 [0,5] fX ?_
   refine wF @hd ?_
   refine wR0 300 [2] fX ?_
   refine wE ?_
   refine wN ?_
   first | exact⟨by simp,rfl,rfl⟩ | exact⟨by simp,rfl,trivial⟩
  ·have hd:decide (((qbT s).length:Int) > 200)=true:=decide_eq_true (by omega)
   have htk:List.take 200 (qbT s)=qbT t:=by rw[ht,qbT,qbT,List.map_take]
   have hle:(200:Int)≤((qbT s).length:Int):=by omega
   have hle2:200≤(qbT s).length:=by omega
   have fX:=(cJ7 @hd @h200 @hz @hle @hle2 @htk @hsz)
   refine qi2 fn9 (by simp) ?_
   unfold i9
   simp only[argL]
   refine wR0 0 [0] fX ?_
   refine wR0 100 [0,5] fX ?_
   refine wT @hd ?_
   refine wR0 200 [0] fX ?_
   refine wR0 300 [2] fX ?_
   refine wE ?_
   refine wN ?_
   first | exact⟨by simp,rfl,rfl⟩ | exact⟨by simp,rfl,trivial⟩
 have r:∀(σ:Nat→Nat) (k:List Int),renL σ (qbT k)=qbT k:=fun σ k=>qd4 _ (qaT _ k)
 refine TC_swp [(302,99999)] (key _ rfl) ?_ rfl ?_ ?_
 ·simp[renL,T.ren,r]
 ·simp[T.ren,swps,swp]
 ·simp[Slot.ren,renL,T.ren,swps,swp,r,newD]
def qao (d:Dc)(n:Int):Int×Dc:=if d.seeds.length≤d.at_ then (0,d) else ((d.seeds.getD d.at_ 0).tmod n,⟨d.seeds,d.at_+1⟩)
theorem qaL {d:Dc}(h:d.ok)(n:Int):(qao d n).2.ok:=by
 rw[qao]
 split
 ·exact h
 ·exact⟨h.len,by simp only;omega,h.rng⟩
theorem qa6 {d:Dc}(h:d.ok){n:Int}(hn:1≤n):0≤(qao d n).1∧(qao d n).1<n:=by
 rw[qao]
 split
 ·exact⟨Int.le_refl 0,by simp only;omega⟩
 ·exact⟨Int.tmod_nonneg n (h.rng _).1,Int.tmod_lt_of_pos _ (by omega)⟩
theorem qbN (d:Dc)(hd:d.ok)(n:Int)(hn:1≤n):TC Tryz.prog 14 [dcR,.int .i64 n] (hpL [(99999,dcB d)]) (.int .i64 (qao d n).1) (hpL [(99999,dcB (qao d n).2)]):=by
 have hl:=hd.len
 have ha:=hd.at_
 have hr:=hd.rng d.at_
 have hlen:=qkk d.seeds
 rw[qao]
 by_cases h:d.seeds.length≤d.at_
 ·rw[if_pos h]
  have hb:decide ((d.at_:Int)≥((qbT d.seeds).length:Int))=true:=decide_eq_true (by omega)
  have fX:=@hb
  refine qi2 fn14 (by simp) ?_
  unfold i14
  simp only[argL,dcB]
  refine wR0 0 [0,1] fX ?_
  refine wR0 100 [0,1,14] fX ?_
  refine wT @hb ?_
  refine wR0 200 [4] fX ?_
  refine wE ?_
  refine wN ?_
  first | exact⟨by simp,rfl,rfl⟩ | exact⟨by simp,rfl,trivial⟩
 ·rw[if_neg h]
  have hb:decide ((d.at_:Int)≥((qbT d.seeds).length:Int))=false:=decide_eq_false (by omega)
  have hw:IntKind.wrap .i64 ((d.at_:Int)+1)=((d.at_+1:Nat):Int):=by rw[wrap64 (by omega) (by omega)];rfl
  have hw2:IntKind.wrap .i64 (((d.at_+1:Nat):Int) - 1)=(d.at_:Int):=by rw[wrap64 (by omega) (by omega)];omega
  have hlt:(d.at_:Int)<((qbT d.seeds).length:Int):=by omega
  have hg:=qo7 d.seeds d.at_ (by omega)
  have hw3:IntKind.wrap .i64 (d.seeds.getD d.at_ 0)=d.seeds.getD d.at_ 0:=wrap64 (by omega) (by omega)
  have hn0:¬n=0:=by omega
  generalize d.seeds.getD d.at_ 0=x at*
  have fX:=(cJ6 @hb @hw @hw2 @hg @hw3 @hn0)
  refine qi2 fn14 (by simp) ?_
  unfold i14
  simp only[argL,dcB]
  refine wR0 0 [0,1] fX ?_
  refine wR0 100 [0,1,14] fX ?_
  refine wF @hb ?_
  refine wR0 300 [0,1] fX ?_
  refine wR0 400 [4] fX ?_
  refine wE ?_
  refine wN ?_
  first | exact⟨by simp,rfl,rfl⟩ | exact⟨by simp,rfl,trivial⟩
end
section
open Go.RowKit
set_option maxHeartbeats 2000000
attribute [local simp] qah qeV qak
def flatK:List Int→List T
 | []=>[]
 | x::l=>.int .i64 x::.nil::flatK l
theorem qfF:∀l:List Int,(flatK l).length=l.length*2
 | []=>rfl
 | x::l=>by simp[flatK,qfF l];omega
@[simp] theorem qmo (D:Nat→Bool):∀l:List Int,clL D (flatK l)=true
 | []=>rfl
 | x::l=>by simp[flatK,clL,T.cl,qmo D l]
theorem qhr:∀(l:List Int) (x:Int),flatK l++[.int .i64 x,.nil]=flatK (l++[x])
 | [],x=>rfl
 | y::l,x=>by rw[List.cons_append,flatK,flatK,←qhr l x];rfl
theorem qkp {H:Heap}:∀(l:List Int) (k:Nat),k<l.length*2→Frz H ((flatK l).getD k .undef) ((qcv (l.map natV)).getD k .undef)
 | [],k,h=>by simp at h
 | x::l,0,_=>.same rfl
 | x::l,1,_=>.nil
 | x::l,k+2,h=>by
  have:=qkp (H:=H) l k (by simp at h;omega)
  simpa [flatK,qcv] using this
theorem qmr {H:Heap}{id ty n tot:Nat}(l:List Int)(hb:H id=.live ⟨ty,flatK l⟩)(hn:n=l.length)(ht:tot=l.length*2):Frz H (.sl id tot 2 0 n) (.list (qaj (l.map natV))):=by
 subst hn ht
 refine Frz.sl hb (qfF l) (by simp[esz]) (by rw[qal,List.length_map]) (qgB _) (by rw[←qdD];exact qeW _) fun k hk=>?_
 rw[←qdD,Nat.zero_add]
 exact qkp l k hk
abbrev rcH (l:List Int):List (Nat×Slot):=[(0,.live ⟨35,[.int .i64 0,.nil]⟩),(102,.live ⟨35,flatK l⟩),(104,.live ⟨35,[.int .i64 0,.sl 102 (l.length*2) 2 0 l.length]⟩)]
end
section
open Go.RowKit
attribute [local simp] qah qak qaT
theorem qpf {A:Type}(f:A→List T)(W:Nat)(hf:∀a,(f a).length=W)(x0:A):∀(l:List A) (j k:Nat),j<l.length→k<W→(l.flatMap f).getD (j*W+k) .undef=(f (l.getD j x0)).getD k .undef
 | [],j,k,h,_=>by simp at h
 | x::l,0,k,_,hk=>by
  simp only[List.flatMap_cons,Nat.zero_mul,Nat.zero_add,List.getD_eq_getElem?_getD]
  rw[List.getElem?_append_left (by rw[hf];exact hk)]
  rfl
 | x::l,j+1,k,h,hk=>by
  have ih:=qpf f W hf x0 l j k (by simpa using h) hk
  have e:(x::l).getD (j+1) x0=l.getD j x0:=rfl
  rw[e,←ih]
  simp only[List.flatMap_cons,List.getD_eq_getElem?_getD]
  rw[List.getElem?_append_right (by rw[hf,Nat.add_mul];omega),hf]
  congr 2
  rw[Nat.add_mul];omega
theorem qch {A:Type}(f:A→List T)(W:Nat)(hf:∀a,(f a).length=W)(l:List A):(l.flatMap f).length=l.length*W:=by
 induction l with
 | nil=>simp
 | cons x l ih=>rw[List.flatMap_cons,List.length_append,hf,ih,List.length_cons,Nat.add_mul];omega
theorem qfl {A:Type}(g:A→List T)(W:Nat)(hW:2≤W)(hg:∀a,(g a).length=W):∀l:List A,flat (l.map fun a=>.agg (g a))=l.flatMap g
 | []=>rfl
 | x::l=>by rw[List.map_cons,qbH,qfl g W hW hg l,List.flatMap_cons];rfl
theorem qgW {A:Type}(x0:A){H:Heap}{D:Nat→Bool}(f g:A→List T)(W id ty:Nat)(hW:2≤W)(hf:∀a,(f a).length=W)(hg:∀a,(g a).length=W)(h1:∀a,Ones (g a))(l:List A)(hd:D id=false)
 (h:∀a k,k<W→Fz H D ((f a).getD k .undef) ((g a).getD k .undef)) (hb:H id=.live ⟨ty,l.flatMap f⟩):Fz H D (.sl id (l.length*W) W 0 l.length) (.list (l.map fun a=>.agg (g a))):=by
 have he:esz W=W:=by unfold esz;split<;>omega
 refine .sl hb hd (qch f W hf l) (by rw[he];omega) (by simp) (fun x hx=>?_) ?_ fun k hk=>?_
 ·obtain⟨a,_,rfl⟩:=List.mem_map.1 hx
  rw[he];exact hg a
 ·rw[qfl g W hW hg]
  intro c hc
  obtain⟨a,_,hc⟩:=List.mem_flatMap.1 hc
  exact h1 a c hc
 ·rw[qfl g W hW hg,Nat.zero_add]
  rw[he] at hk
  have hpos:0<W:=by omega
  have e:k=(k / W)*W+k % W:=by rw[Nat.mul_comm];exact (Nat.div_add_mod k W).symm
  have hj:k / W<l.length:=(Nat.div_lt_iff_lt_mul hpos).2 hk
  have hk2:k % W<W:=Nat.mod_lt _ hpos
  rw[e]
  simp only
  rw[qpf f W hf x0 l _ _ hj hk2,qpf g W hg x0 l _ _ hj hk2]
  exact h _ _ hk2
structure Cr where
 name:ByteArray
 from_:Int
 to_:Int
 need:List Int
 give:List Int
instance:Inhabited Cr:=⟨⟨⟨#[]⟩,0,0,[],[]⟩⟩
def Cr.rl (c:Cr):Rl:=⟨c.name,c.from_,c.to_,c.need,c.give,[],0,0,0,[],[],[],[],0⟩
def crC (c:Cr):List T:=[.str c.name,.int .i64 c.from_,.int .i64 c.to_,.list (qad c.need),.list (qad c.give),.nil,.int .i64 0,.int .i64 0,.int .i64 0,.nil,.nil,.nil,.nil,.int .i64 0]
theorem crC_cl (D:Nat→Bool)(c:Cr):clL D (crC c)=true:=by simp[crC,clL,T.cl,qah]
theorem qmi (D:Nat→Bool)(l:List Cr):clL D (l.flatMap crC)=true:=by
 induction l with
 | nil=>rfl
 | cons x l ih=>rw[List.flatMap_cons,qab,crC_cl,ih];rfl
theorem rlC_ones' (c:Cr):Ones (rlC c.rl):=fun x hx=>by
 simp only[rlC,Cr.rl,List.mem_cons,List.not_mem_nil,or_false] at hx
 rcases hx with rfl | rfl | rfl | rfl | rfl | rfl | rfl | rfl | rfl | rfl | rfl | rfl | rfl | rfl<;>rfl
theorem fz_crs {H:Heap}{D:Nat→Bool}{id:Nat}(l:List Cr)(hd:D id=false)(hb:H id=.live ⟨91,l.flatMap crC⟩):Fz H D (.sl id (l.length*14) 14 0 l.length) (.list (qaR (l.map Cr.rl))):=by
 have:=qgW (x0:=default) (H:=H) (D:=D) crC (fun c=>rlC c.rl) 14 id 91 (by omega) (fun _=>rfl) (fun _=>rfl) (fun c=>rlC_ones' c) l hd (fun c k hk=>?_) hb
 ·rw[qaR,List.map_map];exact this
 ·match k,hk with
  | 0,_=>exact .same rfl
  | 1,_=>exact .same rfl
  | 2,_=>exact .same rfl
  | 3,_=>exact .same (by show T.cl D (.list (qad c.need))=true;simp[T.cl,qah])
  | 4,_=>exact .same (by show T.cl D (.list (qad c.give))=true;simp[T.cl,qah])
  | 5,_=>exact .nil
  | 6,_=>exact .same rfl
  | 7,_=>exact .same rfl
  | 8,_=>exact .same rfl
  | 9,_=>exact .nil
  | 10,_=>exact .nil
  | 11,_=>exact .nil
  | 12,_=>exact .nil
  | 13,_=>exact .same rfl
end
section
open Go.RowKit
attribute [local simp] qah qak qaT qmi
abbrev qq2 (a b:ByteArray):Slot:=.live ⟨9,[.str a,.str b]⟩
end
section
open Go.RowKit
theorem qeM:(⟨#[]⟩:ByteArray).toList=[]:=by
 simp[ByteArray.toList,ByteArray.toList.loop,ByteArray.size]
theorem qmW (x:Int):(natV x).fit:=by simp[V.fit,fitL]
end
section
open Go.RowKit
attribute [local simp] qah qgU qax qaT
def rlZ:Rl:=⟨⟨#[]⟩,0,0,[],[],[],0,0,0,[],[],[],[],0⟩
end
section
open Go.RowKit
open Go.ChangeShapes
def qg9 (k:IntKind)(w:World)(a:Option Addr)(len cap:Nat)(zs:List Int):Prop:=
 (a=none∧len=0∧cap=0∧zs=[])∨
 ∃x,a=some x∧len≤cap∧cap≤maxLen∧zs.length=cap∧(∀i,i<zs.length→w.cell? (x.add i)=some (.int k (zs.getD i 0)))∧∀n∈zs,(Lit.int k n).wf=true
def staW (w:World):Sta:=fun b _=>b<w.heap.size
def qho (k:IntKind)(l:List Int):List T:=l.map fun n=>.int k n
theorem qiE (k:IntKind):∀l:List Int,flat (qho k l)=qho k l
 | []=>rfl
 | x::l=>by
  show (T.int k x).cells++flat (qho k l)=_
  rw[qiE k l]
  rfl
theorem qg9.rep {k:IntKind}{w:World}{a:Option Addr}{len cap:Nat}{zs:List Int}(μ:Nat→Nat)(H:Heap)(h:qg9 k w a len cap zs):Rep w (staW w) μ H (.slice a len cap) (.list (qho k (zs.take len))):=by
 rcases h with⟨rfl,rfl,rfl,rfl⟩ | ⟨x,rfl,h1,h2,h3,h4,_⟩
 ·exact .lnil
 ·have hl:(qho k (zs.take len)).length=len:=by simp[qho];omega
  have hf:flat (qho k (zs.take len))=qho k (zs.take len):=qiE k _
  have hcell:∀p,p<len→w.cell? (x.add p)=some (.int k (zs.getD p 0)):=fun p hp=>h4 p (by omega)
  have hg:∀p,p<len→(qho k (zs.take len)).getD p .undef=.int k (zs.getD p 0):=fun p hp=>by
   simp[qho,List.getD_eq_getElem?_getD,hp,show p<zs.length by omega]
  have:=Rep.list (w:=w) (A:=staW w) (μ:=μ) (H:=H) x cap 1 (qho k (zs.take len)) (fun p=>.int k (zs.getD p 0)) (fun y hy=>by
   obtain⟨n,_,rfl⟩:=List.mem_map.1 hy
   rfl) (by omega) (by
    rw[hf]
    intro c hc
    obtain⟨n,_,rfl⟩:=List.mem_map.1 hc
    rfl) (fun p hp=>by
    rw[hf,hl] at hp
    have:=qco (hcell p hp)
    rwa [qbl] at this) (fun p hp=>by
    rw[hf,hl] at hp
    exact hcell p hp) (fun p hp=>by
    rw[hf,hl] at hp
    rw[hf,hg p hp]
    exact .int k _)
  rw[hl] at this
  exact this
theorem law_of {P:Program}{f:FuncId}{xs:List T}{vs:Array Value}{w:World}(hg:qcp w (staW w))(h:TP P f xs (.bool true))(hR:Reps w (staW w) id (fun _=>.free) vs xs) :
 Calls P f vs w fun e w'=>e=.returned (.bool true)∧Below w.heap.size w w':=by
 refine (h.2 w (staW w) id vs ⟨(fun i j hi=>by cases hi),(fun i b hb=>by cases hb),(fun i es hb=>by cases hb),(fun i hi=>by cases hi),(fun b o hb=>hb),hg⟩ hR).mono ?_
 rintro e w' ⟨v,A',μ',rfl,h1,h2,h3⟩
 cases h1
 exact⟨rfl,h3.os,h3.tape.1,h3.output,h3.size,fun b hb=>(h3.un b hb (fun i hi=>by cases hi)).1⟩
theorem u8_of {n:Int}(h:(Lit.int .u8 n).wf=true):0≤n∧n≤255:=by
 simp only[Lit.wf,Bool.and_eq_true,decide_eq_true_eq] at h
 exact⟨h.1,h.2⟩
theorem qjK {P:Program}{f:FuncId}{w:World}{a:Option Addr}{len cap:Nat}{zs:List Int}(hg:qcp w (staW w))(h:∀l:List Int,(∀j,0≤l.getD j 0∧l.getD j 0≤255)→l.length≤9223372036854775807→TP P f [.list (qbT l)] (.bool true))(w0:qg9 .u8 w a len cap zs) :
 Calls P f #[.slice a len cap] w fun e w'=>e=.returned (.bool true)∧Below w.heap.size w w':=by
 have hz:∀n∈zs,0≤n∧n≤255:=by
  rcases w0 with⟨_,_,_,rfl⟩ | ⟨x,_,_,_,_,_,h5⟩
  ·intro n hn;cases hn
  ·exact fun n hn=>u8_of (h5 n hn)
 have hl:(zs.take len).length≤9223372036854775807:=by
  rcases w0 with⟨_,_,_,rfl⟩ | ⟨x,_,h2,h3,h4,_,_⟩
  ·simp
  ·have hm:maxLen≤9223372036854775807:=by decide
   rw[List.length_take];omega
 refine law_of hg (h (zs.take len) (fun j=>?_) hl) ⟨rfl,fun i hi=>by
  cases i with
  | zero=>exact w0.rep _ _
  | succ i=>simp at hi⟩
 by_cases hj:j<(zs.take len).length
 ·have:=hz (zs.take len)[j] (List.mem_of_mem_take (List.getElem_mem hj))
  rw[List.getD_eq_getElem?_getD,List.getElem?_eq_getElem hj];exact this
 ·have e:(zs.take len).getD j 0=0:=by rw[List.getD_eq_getElem?_getD,List.getElem?_eq_none (Nat.not_lt.1 hj)];rfl
  rw[e];omega
end
section
open Go.RowKit
theorem qnz (t0 t:Ty):∀j,qfu t0 t j=t0::List.replicate j t
 | 0=>rfl
 | j+1=>by rw[qfu,qnz t0 t j,List.replicate_succ',List.cons_append]
theorem qhT:∀v:List Int,qd2 (List.replicate v.length (.mk 1 0 [] [])) (v.map natV)=v.all fin1
 | []=>by simp[qd2]
 | x::v=>by
  have ih:=qhT v
  rw[List.length_cons,List.replicate_succ,List.map_cons,qd2,ih,List.all_cons]
  congr 1
  simp[ofV,fin1,V.n,V.kids]
  rfl
theorem qh4 (most:Int):∀(v:List Int) (n:Int),n+v.length≤most→qdj (v.map natV) n most=n+v.length
 | [],n,_=>by simp[qdj]
 | x::v,n,h=>by
  simp only[List.length_cons] at h
  have h1:qcb (natV x) (most - n)=1:=by simp[qcb,qdj]
  rw[List.map_cons,qdj,if_pos (by omega),h1,qh4 most v (n+1) (by omega)]
  simp only[List.length_cons];omega
theorem qf4 {m:Md}(hk:m.kind=1):qa9 m=.mk 3 0 [] (qaU m.states.length::List.replicate m.places.length (.mk 1 0 [] [])):=by
 have:qa9 m=qbf (qfu (qaU m.states.length) (qex m) m.places.length):=by
  rw[qa9,if_neg (by omega),if_neg (by omega)]
 rw[this,qnz,qex,if_neg (by omega),if_neg (by omega),qbf]
theorem qoP {m:Md}(hk:m.kind=1)(h:qbm m=0):qcC (qa9 m)=0:=by
 have hb:qbF m=true:=by
  rw[qbm] at h
  refine Classical.byContradiction fun hn=>?_
  have hn':qbF m=false:=by simpa using hn
  rw[hn'] at h
  (repeat' split at h)<;>simp_all
 rw[qbF,if_neg (by omega),qdt,Bool.and_eq_true,Bool.and_eq_true,beq_iff_eq] at hb
 exact hb.1.1
theorem qqc {m:Md}(hk:m.kind=1)(h:qbm m=0):m.places.length≤6:=by
 have hs:qbg m=true:=by
  rw[qbm] at h
  refine Classical.byContradiction fun hn=>?_
  have hn':qbg m=false:=by simpa using hn
  rw[hn'] at h
  (repeat' split at h)<;>simp_all
 simp[qbg,hk,limC,btw] at hs
 omega
theorem qtc {m:Md}(hk:m.kind=1)(h:qbm m=0)(s:Int)(v:List Int)(hv:v.length=m.places.length):qdr m (cfV s v)=(decide (0≤s)&&decide (s<m.states.length)&&v.all fin1):=by
 have hc:=qoP hk h
 have hp:=qqc hk h
 have hsz:qcb (cfV s v) 128≤128:=by
  rw[cfV,qcb,qdj,if_pos (by omega)]
  have h1:qcb (natV s) (128 - 1)=1:=by simp[qcb,qdj]
  rw[h1]
  show qdj (v.map natV) 2 128≤128
  rw[qh4 128 v 2 (by omega)];omega
 have hof:ofV (qa9 m) (cfV s v)=(decide (0≤s)&&decide (s<m.states.length)&&v.all fin1):=by
  rw[qf4 hk,ofV,if_neg (by omega),if_neg (by omega),if_neg (by omega),if_pos rfl,←hv]
  have hl:ofV (qaU m.states.length) (natV s)=(decide (0≤s)&&decide (s<m.states.length)):=by
   simp[qaU,ofV,natV,V.n,V.kids]
   rfl
  simp only[cfV,V.n,V.kids,qd2,qhT,hl]
  simp
 rw[qdr,qdt,hc,hof,h,decide_eq_true hsz]
 simp
end
section
open Go.RowKit
set_option maxHeartbeats 2000000
attribute [local simp] qah qak qax
def rlQ:Rl:=⟨⟨#[]⟩,0,0,[],[],[],0,0,0,[],[],[],[],0⟩
theorem qkj (rs:List Rl)(q:Nat)(h:q<rs.length):(qaR rs).getD (q:Int).toNat .undef=qbQ (rs.getD q rlQ):=by
 simp[qaR,List.getD_eq_getElem?_getD,h]
theorem qrQ (m:Md)(hm:m.fit)(hk:m.kind=1)(h0:qbm m=0)(q:Nat)(hq:q<m.rules.length):TP Tryz.prog 157 [qaA m,.int .i64 q] (.int .i64 0):=by
 have hc:=qeC m hm
 rw[h0] at hc
 have hd1:((0:Int) != 0)=false:=rfl
 have hd2:(m.kind != 1)=false:=by simp[hk]
 have hd3:decide ((q:Int)<0)=false:=decide_eq_false (by omega)
 have hd4:decide ((q:Int)≥((qaR m.rules).length:Int))=false:=decide_eq_false (by rw[qaS];omega)
 simp only[qaA,mdC] at hc ⊢
 have fX:=(cJ2 @hd3 @hd4)
 refine qag fn157 (by simp) ?_
 unfold i157
 simp only[argL]
 refine wR0 0 [1,2] fX ?_
 refine wRn 100 [1,2,5] fX ?_
 refine rC fX ?_
 refine⟨_,hc,rE fX ?_⟩
 refine wR0 200 [1,2,5,9] fX ?_
 refine wF @hd1 ?_
 refine wR0 400 [1,2,13] fX ?_
 refine wF @hd2 ?_
 refine wR0 600 [22] fX ?_
 refine wF fX ?_
 refine wR0 800 [4] fX ?_
 refine wP ?_
 exact .same rfl
theorem en17_l (r:Rl)(s:Int)(v:List Int)(hl:v.length≤100000)(hab:r.need.length=v.length)(Q:IExit→(Nat→T)→Heap→Prop):∀(k i:Nat),i+k=r.need.length→
 (allI (fun j=>!decide (v.getD j 0<r.need.getD j 0)) i k=true→∀j:Int,Q (.exit 0) (ofL [(2,.ref 0 14 0),(3,.ref 1 2 0),(5,.int .i64 j),(18,.bool false)]) (hpL [(0,.live ⟨91,rlC r⟩),(1,.live ⟨35,[.int .i64 0,.list (encV (natV s)::qaj (v.map natV))]⟩)]))→
 (allI (fun j=>!decide (v.getD j 0<r.need.getD j 0)) i k=false→Q .ret (ofL [(4,.bool false)]) (hpL [(0,.live ⟨91,rlC r⟩),(1,.live ⟨35,[.int .i64 0,.list (encV (natV s)::qaj (v.map natV))]⟩)]))→
 WL Tryz.prog 34 qjv (ofL [(2,.ref 0 14 0),(3,.ref 1 2 0),(5,.int .i64 i)]) (hpL [(0,.live ⟨91,rlC r⟩),(1,.live ⟨35,[.int .i64 0,.list (encV (natV s)::qaj (v.map natV))]⟩)]) Q:=by
 simp only[rlC]
 intro k
 induction k with
 | zero=>
  intro i hk hQ0 hQ1
  have hd:decide ((i:Int)<((qad r.need).length:Int))=false:=decide_eq_false (by rw[qae];omega)
  have fX:=@hd
  refine qaa qjv.eq_1 ?_
  refine wR0 400 [2,3,5,18] fX ?_
  refine wF @hd ?_
  refine wX ?_
  refine wN ?_
  exact hQ0 rfl _
 | succ k ih=>
  intro i hk hQ0 hQ1
  have hlt:(i:Int)<((qad r.need).length:Int):=by rw[qae];omega
  have hd:decide ((i:Int)<((qad r.need).length:Int))=true:=decide_eq_true hlt
  have hw:IntKind.wrap .i64 ((i:Int)+1)=((i+1:Nat):Int):=by rw[wrap64 (by omega) (by omega)];rfl
  have hga:=qcu r.need i (by omega);have hw1:IntKind.wrap .i64 (1+(i:Int))=((i+1:Nat):Int):=(by rw[wrap64 (by omega) (by omega)];omega);have hal:=qeS v;have hlb:((i+1:Nat):Int)<(((qaj (v.map natV)).length+1:Nat):Int):=(by omega);have hgb:(encV (natV s)::qaj (v.map natV)).getD ((i+1:Nat):Int).toNat .undef=.agg [.int .i64 (v.getD i 0),.list []]:=qhp v i (by omega)
  have fX:=(cJ5 @hd @hw @hga @hgb @hw1)
  refine qaa qjv.eq_1 ?_
  refine wR0 400 [2,3,5,18] fX ?_
  refine wT @hd ?_
  refine wR0 500 [2,3,5,33] fX ?_
  refine wS cJ0 (fun hc500=>?_) (fun hc500=>?_)
  ·skip
   refine wR0 600 [4] fX ?_
   refine wE ?_
   refine wN ?_
   simp at hc500
   exact hQ1 (by simp[allI,hc500])
  ·skip
   refine wR0 700 [2,3,5] fX ?_
   refine wN ?_
   simp at hc500
   have e:allI (fun j=>!decide (v.getD j 0<r.need.getD j 0)) i (k+1)=allI (fun j=>!decide (v.getD j 0<r.need.getD j 0)) (i+1) k:=(by simp[allI,hc500])
   rw[e] at hQ0 hQ1
   exact ih (i+1) (by omega) hQ0 hQ1
theorem qnM (r:Rl)(s:Int)(v:List Int)(hn:r.need.length=v.length)(hl:v.length≤100000):TP Tryz.prog 158 [qbQ r,encV (cfV s v)] (.bool (qcn r s v)):=by
 have hL:=fun Q h0 h1=>en17_l r s v hl hn Q r.need.length 0 (by omega) h0 h1
 rw[qbv]
 simp only[qa2,rlC] at hL ⊢
 have hg0:(T.agg [.int .i64 s,.list []]::qaj (v.map natV)).getD (Int.toNat 0) .undef=.agg [.int .i64 s,.list []]:=rfl
 by_cases hf:s=r.from_
 ·have hd:(s != r.from_)=false:=by simp[hf]
  have fX:=(cJ2 @hg0 @hd)
  refine qag fn158 (by simp) ?_
  unfold i158
  simp only[argL,qbQ,rlC]
  refine wR0 0 [2,3] fX ?_
  refine wR0 100 [2,3,13] fX ?_
  refine wF @hd ?_
  refine wR0 300 [2,3,5] fX ?_
  refine wL ?_
  refine hL _ ?_ ?_
  ·intro h i
   refine wN ?_
   refine wR0 800 [4] fX ?_
   refine wP ?_
   exact qac (by rw[qcn,h,hf];simp)
  ·intro h
   refine wN ?_
   exact⟨by simp,_,rfl,by exact qac (by rw[qcn,h];simp)⟩
 ·have hd:(s != r.from_)=true:=by simpa using hf
  have fX:=(cJ2 @hg0 @hd)
  refine qag fn158 (by simp) ?_
  unfold i158
  simp only[argL,qbQ,rlC]
  refine wR0 0 [2,3] fX ?_
  refine wR0 100 [2,3,13] fX ?_
  refine wT @hd ?_
  refine wR0 200 [4] fX ?_
  refine wP ?_
  exact qac (by rw[qcn,show (r.from_==s)=false from beq_eq_false_iff_ne.2 fun e=>hf e.symm];rfl)
theorem qct (s:Int)(v:List Int)(hl:v.length≤100000):(cfV s v).fit:=by
 refine⟨by simp;omega,qpe fun k hk=>?_⟩
 rcases List.mem_cons.1 hk with rfl | hk
 ·exact qmW s
 ·obtain⟨x,_,rfl⟩:=List.mem_map.1 hk
  exact qmW x
theorem qlU (m:Md)(hm:m.fit)(hk:m.kind=1)(h0:qbm m=0)(q:Nat)(hq:q<m.rules.length)(s:Int)(v:List Int)(hl:v.length≤100000)(hn:(m.rules.getD q rlQ).need.length=v.length)(hv:qdr m (cfV s v)=true):TP Tryz.prog 110 [qaA m,.int .i64 q,encV (cfV s v)] (.tup [.bool (qcn (m.rules.getD q rlQ) s v),.int .i64 0]):=by
 have hf:=qrQ m hm hk h0 q hq
 have hvl:=qc1 m (cfV s v) hm (qct s v hl)
 rw[hv] at hvl
 have hen:=qnM (m.rules.getD q rlQ) s v hn hl
 have hg:=qkj m.rules q hq
 have hlt:(q:Int)<((qaR m.rules).length:Int):=by rw[qaS];omega
 have hd1:((0:Int) != 0)=false:=rfl
 rw[qbv] at hvl hen ⊢
 generalize m.rules.getD q rlQ=r at*
 generalize qcn r s v=b at*
 simp only[qaA,mdC,qbQ,rlC,qa2] at hf hvl hen hg ⊢
 have fX:=@hg
 refine qag fn110 (by simp) ?_
 unfold i110
 simp only[argL]
 refine wR0 0 [1,3,5] fX ?_
 refine wRn 100 [1,3,5,8] fX ?_
 refine rC fX ?_
 refine⟨_,hf,rE fX ?_⟩
 refine wR0 200 [1,3,5,8,13] fX ?_
 refine wF @hd1 ?_
 refine wRn 400 [1,3,5,18] fX ?_
 refine rC fX ?_
 refine⟨_,hvl,rE fX ?_⟩
 refine wF fX ?_
 refine wRn 600 [6,7] fX ?_
 refine rC fX ?_
 refine⟨_,hen,rE fX ?_⟩
 refine wP ?_
 exact .same rfl
end
section
open Go.RowKit
set_option maxHeartbeats 2000000
attribute [local simp] qah qak qax
def difD (r:Rl)(v:List Int)(i:Nat):List Int:=(List.range v.length).map fun j=>if j<i then v.getD j 0 - r.need.getD j 0 else 0
theorem qfC (r:Rl)(v:List Int)(i:Nat):(difD r v i).length=v.length:=by simp[difD]
theorem qgS (r:Rl)(v:List Int)(i j:Nat)(h:j<v.length):(difD r v i).getD j 0=if j<i then v.getD j 0 - r.need.getD j 0 else 0:=by
 simp[difD,List.getD_eq_getElem?_getD,h]
theorem qoZ (r:Rl)(v:List Int)(i:Nat)(h:i<v.length):difD r v (i+1)=(difD r v i).set i (v.getD i 0 - r.need.getD i 0):=by
 apply List.ext_getElem (by simp[difD])
 intro k h1 h2
 have hk:k<v.length:=by rw[qfC] at h1;exact h1
 have e1:(difD r v (i+1))[k]=(difD r v (i+1)).getD k 0:=by simp[List.getD_eq_getElem?_getD,h1]
 have h3:k<(difD r v i).length:=by rw[qfC];exact hk
 have e2:(difD r v i)[k]=(difD r v i).getD k 0:=by simp[List.getD_eq_getElem?_getD,h3]
 rw[e1,qgS r v _ k hk,List.getElem_set,e2,qgS r v i k hk]
 by_cases hki:i=k
 ·subst hki;rw[if_pos (by omega),if_pos rfl]
 ·rw[if_neg hki]
  by_cases hlt:k<i
  ·rw[if_pos (by omega),if_pos hlt]
  ·rw[if_neg (by omega),if_neg hlt]
theorem qo0 (r:Rl)(v:List Int):qad (difD r v 0)=repl v.length [.int .i64 0]:=by
 have:difD r v 0=List.replicate v.length 0:=by
  apply List.ext_getElem (by simp[difD])
  intro k h1 h2
  simp[difD]
 rw[this]
 generalize v.length=n
 induction n with
 | zero=>rfl
 | succ n ih=>rw[List.replicate_succ,show qad (0::List.replicate n 0)=.int .i64 0::qad (List.replicate n 0) from rfl,ih];rfl
abbrev apC (s:Int)(v:List Int):List T:=[.int .i64 0,.list (.agg [.int .i64 s,.list []]::qaj (v.map natV))]
abbrev apH (m:Md)(s:Int)(v:List Int)(r:Rl)(row:List Int):List (Nat×Slot):=[(0,sMg m),(1,.live ⟨35,apC s v⟩),(2,.live ⟨35,[.int .i64 0,.nil]⟩),(605,.live ⟨91,rlC r⟩),(703,sVv row)]
set_option maxHeartbeats 8000000 in
theorem qrq (m:Md)(s:Int)(v:List Int)(r:Rl)(n:Nat)(hn:v.length=n)(hl:n≤100000)(hr:RoomR r v)(hmv:r.move=[])(hfin:∀j,v.getD j 0≤1048576)(Q:IExit→(Nat→T)→Heap→Prop)
 (hQ:∀j:Int,Q (.exit 0) (ofL [(5,.ref 1 2 0),(6,.ref 2 2 0),(10,.ref 605 14 0),(11,.sl 703 n 0 0 n),(12,.int .i64 j),(42,.bool false)]) (hpL (apH m s v r (difD r v n)))) :
 ∀(f i:Nat),i+f=n→WL Tryz.prog 116 qmC (ofL [(5,.ref 1 2 0),(6,.ref 2 2 0),(10,.ref 605 14 0),(11,.sl 703 n 0 0 n),(12,.int .i64 i)]) (hpL (apH m s v r (difD r v i))) Q:=by
 simp only[apH,rlC] at hQ ⊢
 intro f
 induction f with
 | zero=>
  intro i hi
  have hd:decide ((i:Int)<(n:Int))=false:=decide_eq_false (by omega)
  have e:i=n:=by omega
  subst e
  have fX:=@hd
  refine qaa qmC.eq_1 ?_
  refine wR0 900 [5,6,10,11,12,42] fX ?_
  refine wF @hd ?_
  refine wX ?_
  refine wN ?_
  exact hQ _
 | succ f ih=>
  intro i hi
  have hd:decide ((i:Int)<(n:Int))=true:=decide_eq_true (by omega)
  have hw:IntKind.wrap .i64 ((i:Int)+1)=((i+1:Nat):Int):=by rw[wrap64 (by omega) (by omega)];rfl
  have hw1:IntKind.wrap .i64 (1+(i:Int))=((i+1:Nat):Int):=by rw[wrap64 (by omega) (by omega)];omega
  have hnd:=hr.need
  have hga:=qcu r.need i (by omega)
  have hlg:(i:Int)<((qad r.need).length:Int):=by rw[qae];omega
  have hal:=qeS v
  have hlb:((i+1:Nat):Int)<(((qaj (v.map natV)).length+1:Nat):Int):=by omega
  have hgb:(T.agg [.int .i64 s,.list []]::qaj (v.map natV)).getD ((i+1:Nat):Int).toNat .undef=.agg [.int .i64 (v.getD i 0),.list []]:=qhp v i (by omega)
  have hin:(i:Int)<(n:Int):=by omega
  have hj1:((i:Nat):Int).toNat*1=i:=by simp
  have hdl:=qfC r v i
  have hel:(qad (difD r v i)).length=n:=by rw[qae];omega
  have hsr:=qql (difD r v i) i (by omega)
  rw[qgS r v i i (by omega),if_neg (by omega)] at hsr
  have k1:=hr.needB i
  have k3:=hr.vec i
  have k4:=hfin i
  have hw2:IntKind.wrap .i64 (v.getD i 0 - r.need.getD i 0)=v.getD i 0 - r.need.getD i 0:=wrap64 (by omega) (by omega)
  have hw3:IntKind.wrap .i64 (0+(v.getD i 0 - r.need.getD i 0))=v.getD i 0 - r.need.getD i 0:=by rw[wrap64 (by omega) (by omega)];omega
  have hsw:=qi0 (difD r v i) (v.getD i 0 - r.need.getD i 0) i (by omega)
  have hQ':=ih (i+1) (by omega)
  rw[qoZ r v i (by omega)] at hQ'
  have hmz:(decide (((qad r.move).length:Int) > 0))=false:=by rw[hmv];rfl
  have hi0:decide ((i:Int)≥0)=true:=decide_eq_true (by omega)
  have fX:=(cJ8 @hd @hw @hw1 @hga @hgb @hj1 @hel (cJ6 @hsr @hw2 @hw3 @hsw @hmz @hi0))
  refine qaa qmC.eq_1 ?_
  refine wR0 900 [5,6,10,11,12,42] fX ?_
  refine wT @hd ?_
  refine wR0 1000 [5,6,10,11,12,13] fX ?_
  refine wR0 1100 [5,6,10,11,12,13,49] fX ?_
  refine wF @hmz ?_
  refine wR0 1300 [5,6,10,11,12,13,56] fX ?_
  refine wT @hi0 ?_
  refine wR0 1400 [5,6,10,11,12] fX ?_
  refine wR0 1500 [5,6,10,11,12] fX ?_
  refine wN ?_
  exact hQ'
end
section
open Go.RowKit
set_option maxHeartbeats 2000000
attribute [local simp] qah qak qax
abbrev apH2 (m:Md)(s:Int)(v:List Int)(r:Rl)(row done:List Int):List (Nat×Slot):=apH m s v r row++[(1603,.live ⟨35,flatK done⟩),(1605,.live ⟨35,[.int .i64 0,.sl 1603 (done.length*2) 2 0 done.length]⟩)]
set_option maxHeartbeats 8000000 in
theorem qrr (m:Md)(s:Int)(v:List Int)(r:Rl)(n:Nat)(hn:v.length=n)(hl:n≤100000)(hr:RoomR r v)(hfin:∀j,v.getD j 0≤1048576)(Q:IExit→(Nat→T)→Heap→Prop)
 (hQ0:aftO r v=true→∀j:Int,Q (.exit 2) (ofL [(6,.ref 2 2 0),(10,.ref 605 14 0),(11,.sl 703 n 0 0 n),(14,.ref 1605 2 0),(15,.int .i64 j),(84,.bool false)]) (hpL (apH2 m s v r (difD r v n) (r.to_::aftR r v))))
 (hQ1:aftO r v=false→∀done,Q .ret (ofL [(6,.ref 2 2 0),(7,.int .i64 1)]) (hpL (apH2 m s v r (difD r v n) done))) :
 ∀(f i:Nat) (done:List Int),i+f=n→done=r.to_::(aftR r v).take i→(∀j,j<i→aft1 r v j≤1048576)→
 WL Tryz.prog 116 qkC (ofL [(6,.ref 2 2 0),(10,.ref 605 14 0),(11,.sl 703 n 0 0 n),(14,.ref 1605 2 0),(15,.int .i64 i)]) (hpL (apH2 m s v r (difD r v n) done)) Q:=by
 simp only[apH2,apH,sMg,mdC,rlC,List.cons_append,List.nil_append] at hQ0 hQ1 ⊢
 have hdl:=qfC r v n
 have hal:=qeL r v
 have hel:(qad (difD r v n)).length=n:=by rw[qae];omega
 intro f
 induction f with
 | zero=>
  intro i done hi hdn hall
  have hd:decide ((i:Int)<(n:Int))=false:=decide_eq_false (by omega)
  have e:done=r.to_::aftR r v:=by rw[hdn,List.take_of_length_le (by omega)]
  subst e
  have ho:aftO r v=true:=(qdR _ _ _).2 fun j _ hj=>by
   have:=hall j (by omega)
   simp[this]
  have fX:=@hd
  refine qaa qkC.eq_1 ?_
  refine wR0 1800 [6,10,11,14,15,84] fX ?_
  refine wF @hd ?_
  refine wX ?_
  refine wN ?_
  exact hQ0 ho _
 | succ f ih=>
  intro i done hi hdn hall
  have hd:decide ((i:Int)<(n:Int))=true:=decide_eq_true (by omega)
  have hw:IntKind.wrap .i64 ((i:Int)+1)=((i+1:Nat):Int):=by rw[wrap64 (by omega) (by omega)];rfl
  have hgv:=hr.give
  have hga:=qcu r.give i (by omega)
  have hlg:(i:Int)<((qad r.give).length:Int):=by rw[qae];omega
  have hin:(i:Int)<(n:Int):=by omega
  have hj1:((i:Nat):Int).toNat*1=i:=by simp
  have hsr:=qql (difD r v n) i (by omega)
  rw[qgS r v n i (by omega),if_pos (by omega)] at hsr
  have k1:=hr.needB i
  have k2:=hr.giveB i
  have k3:=hr.vec i
  have k4:=hfin i
  have ha1:aft1 r v i=v.getD i 0 - r.need.getD i 0+r.give.getD i 0:=by rw[aft1,if_neg (by omega)]
  have hw2:IntKind.wrap .i64 (v.getD i 0 - r.need.getD i 0+r.give.getD i 0)=aft1 r v i:=by rw[wrap64 (by omega) (by omega),ha1]
  have hdn1:done.length=i+1:=by rw[hdn,List.length_cons,List.length_take];omega
  have hfl:=qfF done
  by_cases hc:aft1 r v i > 1048576
  ·have hcd:decide (aft1 r v i > 1048576)=true:=decide_eq_true hc
   have ho:aftO r v=false:=by
    rw[←Bool.not_eq_true,aftO,qdR]
    intro h
    have:=h i (Nat.zero_le _) (by omega)
    simp only[Bool.or_eq_true,beq_iff_eq,decide_eq_true_eq] at this
    omega
   have fX:=(cJ7 @hd @hga @hj1 @hel @hsr @hw2 @hcd)
   refine qaa qkC.eq_1 ?_
   refine wR0 1800 [6,10,11,14,15,84] fX ?_
   refine wT @hd ?_
   refine wR0 1900 [6,10,11,14,15,97] fX ?_
   refine wT @hcd ?_
   refine wR0 2000 [6,7] fX ?_
   refine wE ?_
   refine wN ?_
   exact hQ1 ho done
  ·have hcd:decide (aft1 r v i > 1048576)=false:=decide_eq_false hc
   have hQ':=ih (i+1) (done++[aft1 r v i]) (by omega) (by
    rw[hdn,qia _ _ (by omega),qfy r v i (by omega)];rfl) (fun j hj=>by
    by_cases e:j=i
    ·subst e;omega
    ·exact hall j (by omega))
   have hap:=qhr done (aft1 r v i)
   have fX:=(cJ8 @hd @hw @hga @hj1 @hel @hsr @hw2 (cJ4 @hcd @qaF @hap @hfl))
   refine qaa qkC.eq_1 ?_
   refine W_gc ?_
   refine wR0 1800 [6,10,11,14,15,84] fX ?_
   refine wT @hd ?_
   refine wR0 1900 [6,10,11,14,15,97] fX ?_
   refine wF @hcd ?_
   refine wR0 2100 [6,10,11,14,15] fX ?_
   refine wR0 2200 [6,10,11,14,15] fX ?_
   refine wN ?_
   refine qay [0,1,2,605,703,1603,1605] (by simp[inL]) (by simp[inL,T.cl]) (by simp[qaf,inL,Slot.cl,T.cl,clL,qmo,qah,qak,qax,qaO,qo6]) ?_
   simpa [qaf,inL,Nat.add_mul] using hQ'
end
end Go.Proofs.YtkbjpglehdhjfaaGreatDoor
