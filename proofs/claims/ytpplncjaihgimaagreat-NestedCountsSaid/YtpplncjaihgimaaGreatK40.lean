/- Contracts of functions of the program, for all arguments that they name. -/
import Derived.Below
import Derived.Test.YtpplncjaihgimaaGreatK25
import Derived.Test.YtpplncjaihgimaaGreatK35
import Derived.Test.YtpplncjaihgimaaGreatK36
import Derived.Test.YtpplncjaihgimaaGreatK38
namespace Go.Proofs.YtpplncjaihgimaaGreat
set_option linter.unusedVariables false
section
open Go.RowKit
open Go.ChangeShapes
def qgZ (k:IntKind)(w:World)(a:Option Addr)(len cap:Nat)(zs:List Int):Prop:=
 (a=none∧len=0∧cap=0∧zs=[])∨
 ∃x,a=some x∧len≤cap∧cap≤maxLen∧zs.length=cap∧(∀i,i<zs.length→w.cell? (x.add i)=some (.int k (zs.getD i 0)))∧∀n∈zs,(Lit.int k n).wf=true
def staW (w:World):Sta:=fun b _=>b<w.heap.size
def qhj (k:IntKind)(l:List Int):List T:=l.map fun n=>.int k n
theorem qiw (k:IntKind):∀l:List Int,flat (qhj k l)=qhj k l
 | []=>rfl
 | x::l=>by
  show (T.int k x).cells++flat (qhj k l)=_
  rw[qiw k l]
  rfl
theorem qgZ.rep {k:IntKind}{w:World}{a:Option Addr}{len cap:Nat}{zs:List Int}(μ:Nat→Nat)(H:Heap)(h:qgZ k w a len cap zs):Rep w (staW w) μ H (.slice a len cap) (.list (qhj k (zs.take len))):=by
 rcases h with⟨rfl,rfl,rfl,rfl⟩ | ⟨x,rfl,h1,h2,h3,h4,_⟩
 ·exact .lnil
 ·have hl:(qhj k (zs.take len)).length=len:=by simp[qhj];omega
  have hf:flat (qhj k (zs.take len))=qhj k (zs.take len):=qiw k _
  have hcell:∀p,p<len→w.cell? (x.add p)=some (.int k (zs.getD p 0)):=fun p hp=>h4 p (by omega)
  have hg:∀p,p<len→(qhj k (zs.take len)).getD p .undef=.int k (zs.getD p 0):=fun p hp=>by
   simp[qhj,List.getD_eq_getElem?_getD,hp,show p<zs.length by omega]
  have:=Rep.list (w:=w) (A:=staW w) (μ:=μ) (H:=H) x cap 1 (qhj k (zs.take len)) (fun p=>.int k (zs.getD p 0)) (fun y hy=>by
   obtain⟨n,_,rfl⟩:=List.mem_map.1 hy
   rfl) (by omega) (by
    rw[hf]
    intro c hc
    obtain⟨n,_,rfl⟩:=List.mem_map.1 hc
    rfl) (fun p hp=>by
    rw[hf,hl] at hp
    have:=qea (hcell p hp)
    rwa [qci] at this) (fun p hp=>by
    rw[hf,hl] at hp
    exact hcell p hp) (fun p hp=>by
    rw[hf,hl] at hp
    rw[hf,hg p hp]
    exact .int k _)
  rw[hl] at this
  exact this
theorem law_of {P:Program}{f:FuncId}{xs:List T}{vs:Array Value}{w:World}(h:TP P f xs (.bool true))(hR:Reps w (staW w) id (fun _=>.free) vs xs) :
 Calls P f vs w fun e w'=>e=.returned (.bool true)∧Below w.heap.size w w':=by
 refine (h.2 w (staW w) id vs ⟨(fun i j hi=>by cases hi),(fun i b hb=>by cases hb),(fun i es hb=>by cases hb),(fun i hi=>by cases hi),fun b o hb=>hb⟩ hR).mono ?_
 rintro e w' ⟨v,A',μ',rfl,h1,h2,h3⟩
 cases h1
 exact⟨rfl,h3.os,h3.tape.1,h3.output,h3.size,fun b hb=>(h3.un b hb (fun i hi=>by cases hi)).1⟩
theorem qgN {P:Program}{f:FuncId}{w:World}{a:Option Addr}{len cap:Nat}{zs:List Int}(h:∀l:List Int,TP P f [.list (qab l)] (.bool true))(w0:qgZ .i64 w a len cap zs) :
 Calls P f #[.slice a len cap] w fun e w'=>e=.returned (.bool true)∧Below w.heap.size w w':=
 law_of (h (zs.take len)) ⟨rfl,fun i hi=>by
  cases i with
  | zero=>exact w0.rep _ _
  | succ i=>simp at hi⟩
end
section
open Go.RowKit
set_option maxHeartbeats 2000000
attribute [local simp] qay
abbrev bN (m:Md)(l:List Nd):List V:=l.map (qaD m.levels)
abbrev encN (m:Md)(s:Int)(l:List Nd):T:=.agg [.int .i64 0,.list (qac [.mk s [],.mk 0 (bN m l)])]
abbrev sVN (m:Md)(s:Int)(l:List Nd):Slot:=.live ⟨25,[.int .i64 0,.list (qac [.mk s [],.mk 0 (bN m l)])]⟩
theorem Gmd.ty4 {m:Md}(g:Gmd m):qar (qau m) 8=true:=qib m g.tm.kind (by have:=g.tm.n1;omega) (by have:=g.tm.n2;omega)
theorem qnC {m:Md}(g:Gmd m){v:V}(h:qaR (qau m) v=true):∃s l,v=cfgN m.levels s l∧OkN m s l:=(qcd g.tm.kind (qc1 g.tm.kind g.check).1 v).1 h
theorem qin {m:Md}(g:Gmd m)(d:Dk)(hd:d.ok):∃(s:Int) (l:List Nd) (d':Dk),OkN m s l∧d'.ok∧
 TC Tryz.prog 14 [dkR,qax m] (hpL [(99999,dkB d)]) (encN m s l) (hpL [(99999,dkB d')]):=by
 have hm:=g.tm
 have htf:qcU (cfM m)=qau m:=hm.cf.typeF
 obtain⟨v,d',hvf,hvv,hok,hcf⟩:=qkl m d g.fit (by rw[htf];exact g.ty4) (by rw[htf];exact typedM_fit' g.fit) hd
 rw[htf] at hvv
 obtain⟨s,l,rfl,o⟩:=qnC g (hvv (qgI _ hm.kind))
 exact⟨s,l,d',o,hok,hcf⟩
theorem qiy {H:Heap}{D:Nat→Bool}{id:Nat}{s:Int}{B:T}{zs:List V}(hb:H id=rB [.int .i64 s,.list [],.int .i64 0,B])(hd:D id=false)(h:Fz H D B (.list (qac zs))):Fz H D (.sl id 4 2 0 2) (.list (qac [.mk s [],.mk 0 zs])):=
 .slL hb hd rfl rfl rfl rfl rfl (.cons (.same rfl) (.cons (.same rfl) (.cons (.same rfl) (.cons h .nil))))
theorem qhe {m:Md}(g:Gmd m)(d:Dk)(hd:d.ok):∃(s:Int) (l:List Nd) (d':Dk),OkN m s l∧d'.ok∧
 TC Tryz.prog 14 [dkR,qax m] (hpL [(99999,dkB d)]) (.agg [.int .i64 0,.sl 409 4 2 0 2]) (hpL [(99999,dkB d'),(409,rB [.int .i64 s,.list [],.int .i64 0,.list (qac (bN m l))])]):=by
 have hm:=g.tm
 have htf:qcU (cfM m)=qau m:=hm.cf.typeF
 have ht:=qmw (cfM m) (qiW g.fit (by simp[v0,V.fit,fitL]))
 rw[htf] at ht
 obtain⟨r,R',d',hrf,hvv,hok,h4⟩:=qlF (qau m) d (qgI _ hm.kind) (typedM_fit' g.fit) g.ty4 hd
 obtain⟨s,l,e,o⟩:=qnC g hvv
 simp only[cfgN,bagV,V.mk.injEq,true_and] at e
 obtain⟨rfl,rfl⟩:r=.mk s []∧R'=[.mk 0 (l.map (qaD m.levels))]:=by simpa using e
 have hfx:qaq [.mk s [],.mk 0 (l.map (qaD m.levels))]=[.int .i64 s,.list [],.int .i64 0,.list (qac (l.map (qaD m.levels)))]:=rfl
 simp only[encK,sK,hfx] at h4
 refine⟨s,l,d',o,hok,?_⟩
 rcases hty:qau m with⟨tk,ts,trs,tps⟩
 rw[hty] at ht h4
 simp only[qal] at ht h4
 refine qlI fn14 (by simp) ?_
 unfold i14
 simp only[argL,qax,mdC]
 refine wR0 0 [0,3,4] cJ0 ?_
 refine wR0 100 [0,4,5] cJ0 ?_
 refine wR0 200 [0,4,5] cJ0 ?_
 refine wR0 300 [0,4,5] cJ0 ?_
 refine wRn 400 [4] cJ0 ?_
 refine rG [] cJ0 ?_
 refine⟨_,_,ht,(by (exact .cons (.aggL (.cons (.same rfl) (.cons (.same (by simp[T.cl])) (.cons (.same (by simp[T.cl])) (.cons (.same (by simp[T.cl])) (.cons (.same (by simp[T.cl,qae])) (.cons (.same rfl) (.cons (.same rfl) (.cons .nil (.cons (.same rfl) (.cons .nil .nil)))))))))) rfl) .nil)),rN cJ0 ?_⟩
 refine rU [(99999,dkB d)] [(99999,dkB d'),(409,rB [.int .i64 s,.list [],.int .i64 0,.list (qac (l.map (qaD m.levels)))])] cJ0 ?_
 refine⟨_,h4.fullL (by simp) (by simp[qbD,qaL,qa0,qbm]),rE cJ0 ?_⟩
 refine wE ?_
 refine wN ?_
 exact⟨by simp,_,_,_,rfl,rfl,.same rfl,.keep rfl (qaT _) (.dead rfl (fun h=>by cases h) (.dead rfl (fun h=>by cases h) (.dead rfl (fun h=>by cases h) (.keep rfl (.liveA (by simp[T.cl,clL,qai]) rfl) .nil)))),rfl⟩
end
end Go.Proofs.YtpplncjaihgimaaGreat
