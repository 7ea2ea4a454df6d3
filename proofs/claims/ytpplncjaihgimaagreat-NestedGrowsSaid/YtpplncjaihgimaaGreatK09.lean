/- Contracts of functions of the program, for all arguments that they name. -/
import Derived.Shelf.SlSortCmp.Insertion
import Derived.Test.YtpplncjaihgimaaGreatSorts
import Derived.Test.YtpplncjaihgimaaGreatK02
import Derived.Test.YtpplncjaihgimaaGreatK03
import Derived.Test.YtpplncjaihgimaaGreatK04
import Derived.Test.YtpplncjaihgimaaGreatK05
import Derived.Test.YtpplncjaihgimaaGreatK07
import Derived.Test.YtpplncjaihgimaaGreatK08
namespace Go.Proofs.YtpplncjaihgimaaGreat
set_option linter.unusedVariables false
section
open Go.RowKit
set_option maxHeartbeats 2000000
def qhK (v:V)(s:Int):Bool:=decide (v.n≥0)&&decide (v.n<s)&&((v.kids.length:Int)==0)
theorem qnr (v:V)(s:Int):TP Tryz.prog 160 [encV v,.int .i64 s] (.bool (qhK v s)):=by
 rcases v with⟨n,ks⟩
 refine qan fn160 (by simp) ?_
 unfold i160
 simp only[argL,encV]
 refine wN ?_
 refine wR0 0 [1,2] cJ0 ?_
 refine wN ?_
 refine wR0 100 [4] cJ0 ?_
 refine wN ?_
 refine qaE ?_
 (try simp only)
 exact⟨by simp,_,rfl,by exact qad (by simp only[qhK,V.n,V.kids,qag];rfl)⟩
def qdA (p:V→Bool):List V→Int→Int
 | [],_ => -1
 | k::ks,i=>if p k=true then i else qdA p ks (i+1)
theorem qkF (p:V→Bool):∀(ks:List V) (i:Int),0≤i→decide (qdA p ks i≥0)=ks.any p
 | [],i,_=>rfl
 | k::ks,i,hi=>by
  by_cases hp:p k=true
  ·simp only[qdA,List.any_cons,hp,Bool.true_or];exact decide_eq_true hi
  ·simp only[qdA,List.any_cons,Bool.eq_false_iff.2 hp,Bool.false_or];exact qkF p ks (i+1) (by omega)
theorem qlY (f:FuncId)(caps:List T)(hcaps:clL (fun _=>false) caps=true)(p:V→Bool)(xs:List V)(hl:xs.length≤1000000)(Q:IExit→(Nat→T)→Heap→Prop):∀(rest pre:List V) (i:Nat),xs=pre++rest→pre.length=i→
 (∀k∈rest,TP Tryz.prog f ([encV k]++caps) (.bool (p k)))→
 (qdA p rest i = -1→∀i:Int,Q (.exit 0) (ofL [(0,.list (qac xs)),(1,.fn f caps),(7,.int .i64 (qac xs).length),(8,.int .i64 i),(9,.bool false)]) (hpL []))→
 (qdA p rest i ≠ -1→Q .ret (ofL [(4,.int .i64 (qdA p rest i))]) (hpL []))→
 WL Tryz.prog 19 qjy (ofL [(0,.list (qac xs)),(1,.fn f caps),(7,.int .i64 (qac xs).length),(8,.int .i64 i)]) (hpL []) Q:=by
 intro rest
 induction rest with
 | nil=>
  intro pre i he hn hk hQ0 hQ1
  have hd:decide ((i:Int)<((qac xs).length:Int))=false:=by simp[qag,he,hn]
  refine qaa qjy.eq_1 ?_
  refine wN ?_
  refine wR0 200 [0,1,7,8,9] @hd ?_
  refine wN ?_
  refine qaj (eV cJ0) ?_
  simp only[Bool.false_eq_true,if_false]
  refine wN ?_
  refine qbE ?_
  (try simp only[thn])
  exact hQ0 rfl _
 | cons k rest ih=>
  intro pre i he hn hk hQ0 hQ1
  rcases k with⟨a,bs⟩
  have hlt:(i:Int)<((qac xs).length:Int):=by simp[qag,he];omega
  have hlb:i≤1000000:=by rw[he] at hl;simp at hl;omega
  have hd:decide ((i:Int)<((qac xs).length:Int))=true:=decide_eq_true hlt
  have hg:(qac xs).getD (i:Int).toNat .undef=.agg [.int .i64 a,.list (qac bs)]:=by rw[Int.toNat_natCast,he,←hn];exact qaU _ (.mk a bs) _
  have hw:IntKind.wrap .i64 ((i:Int)+1)=(i:Int)+1:=wrap64 (by omega) (by omega)
  refine qaa qjy.eq_1 ?_
  refine wN ?_
  refine wR0 200 [0,1,7,8,9] @hd ?_
  refine wN ?_
  refine qaj (eV cJ0) ?_
  simp only[if_true]
  refine wN ?_
  refine wR0 300 [0,1,5,7,8] cJ0 ?_
  refine wN ?_
  apply W_r 400 [0,1,5,7,8,16] (by rfl)
  ·refine rN @hg ?_
   apply qe1
   ·rfl
   ·exact eV cJ0
   ·exact eV cJ0
   ·exact hk (.mk a bs) (List.mem_cons_self ..)
   ·simp[froL,clL,T.cl,hcaps]
   refine rN cJ0 ?_
   exact rFi
  ·exact eV cJ0
  simp only[thn]
  cases hc:p (.mk a bs)
  ·refine qaj (eV cJ0) ?_
   simp only[Bool.false_eq_true,if_false]
   refine wN ?_
   refine wR0 600 [0,1,7,8] @hw ?_
   refine wN ?_
   have e:qdA p (.mk a bs::rest) i=qdA p rest ((i+1:Nat):Int):=by simp[qdA,hc]
   rw[e] at hQ0 hQ1
   have:=ih (pre++[.mk a bs]) (i+1) (by simp[he]) (by simp;omega) (fun k' hk'=>hk k' (List.mem_cons_of_mem _ hk')) hQ0 hQ1
   simpa using this
  ·refine qaj (eV cJ0) ?_
   simp only[if_true]
   refine wN ?_
   refine wR0 500 [4] cJ0 ?_
   refine wN ?_
   refine qaE ?_
   (try simp only[thn,inB])
   have e:qdA p (.mk a bs::rest) i=i:=by simp[qdA,hc]
   rw[e] at hQ1
   exact hQ1 (by omega)
theorem qqr (f:FuncId)(caps:List T)(hcaps:clL (fun _=>false) caps=true)(p:V→Bool)(xs:List V)(hl:xs.length≤1000000)(hk:∀k∈xs,TP Tryz.prog f ([encV k]++caps) (.bool (p k))):TP Tryz.prog 201 [.list (qac xs),.fn f caps] (.int .i64 (qdA p xs 0)):=by
 refine qan fn201 (by simp) ?_
 unfold i201
 simp only[argL]
 refine wN ?_
 refine wR0 0 [0,1] cJ0 ?_
 refine wN ?_
 refine wR0 100 [0,1,7,8] cJ0 ?_
 refine wN ?_
 refine qbN ?_
 refine qlY f caps hcaps p xs hl _ xs [] 0 rfl rfl hk ?_ ?_
 ·intro h i
  simp only[inB,if_true,thn]
  refine wR0 700 [4] cJ0 ?_
  refine wN ?_
  refine qaE ?_
  (try simp only)
  exact⟨by simp,_,rfl,by exact qaW h.symm⟩
 ·intro h
  simp only[inB,thn]
  exact⟨by simp,_,rfl,.same rfl⟩
theorem qej (f:FuncId)(caps:List T)(hcaps:clL (fun _=>false) caps=true)(p:V→Bool)(xs:List V)(hl:xs.length≤1000000)(hk:∀k∈xs,TP Tryz.prog f ([encV k]++caps) (.bool (p k))):TP Tryz.prog 164 [.list (qac xs),.fn f caps] (.bool (xs.any p)):=by
 refine qan fn164 (by simp) ?_
 unfold i164
 simp only[argL]
 refine wN ?_
 refine wR0 0 [0,1] cJ0 ?_
 refine wN ?_
 apply W_r 100 [4] (by rfl)
 ·refine rN cJ0 ?_
  apply qdP
  ·rfl
  ·exact eV cJ0
  ·exact qqr f caps hcaps p xs hl hk
  ·simp[froL,clL,T.cl,hcaps]
  refine rN cJ0 ?_
  exact rFi
 ·exact eV cJ0
 simp only[thn]
 refine qaE ?_
 (try simp only)
 exact⟨by simp,_,rfl,by exact qad (qkF p xs 0 (by omega))⟩
mutual
def tagV (n:Int):V→Bool
 | .mk a ks=>(decide (a≥0)&&decide (a<n))&&tagL n ks
def tagL (n:Int):List V→Bool
 | []=>true
 | k::ks=>tagV n k&&tagL n ks
end
mutual
theorem qrJ (n:Int):∀v,tagV n v=qet n v
 | .mk a ks=>by rw[tagV,qet,qrI n ks,Bool.and_comm]
theorem qrI (n:Int):∀ks,tagL n ks=qfR n ks
 | []=>rfl
 | k::ks=>by rw[tagL,qfR,qrJ n k,qrI n ks]
end
theorem qoc (n:Int):∀ks:List V,(!ks.any fun k=>!tagV n k)=tagL n ks
 | []=>rfl
 | k::ks=>by rw[tagL,←qoc n ks];simp
theorem qje {H:Heap}{id ty n:Nat}{f:FuncId}{cs:List T}(hb:H id=.live ⟨ty,cs⟩)(hn:n=cs.length)(h1:Ones cs)(hc:clL (fun _=>false) cs=true):Frz H (.fn f [.ref id n 0]) (.fn f [.ptr cs]):=by
 subst hn
 refine Frz.fn rfl fun i hi=>?_
 cases i with
 | zero=>
  refine Frz.ref hb rfl (by simp) h1 fun k hk=>?_
  rw[Nat.zero_add]
  exact .same (qbb hc k)
 | succ i=>simp at hi
theorem qvm (n:Int)(v:V)(h:TP Tryz.prog 163 [encV v,.int .i64 n] (.bool (tagV n v))):TP Tryz.prog 200 [encV v,.ptr [.int .i64 n]] (.bool (!tagV n v)):=by
 rcases v with⟨a,ks⟩
 refine qan fn200 (by simp) ?_
 unfold i200
 simp only[argL,encV]
 refine wN ?_
 refine wR0 0 [1,2] cJ0 ?_
 refine wN ?_
 refine wRn 100 [3] cJ0 ?_
 refine rC cJ0 ?_
 refine⟨_,h,rE cJ0 ?_⟩
 refine wN ?_
 refine qaE ?_
 (try simp only)
 exact⟨by simp,_,rfl,by exact .same rfl⟩
theorem qua:∀(v:V) (n:Int),v.fit→TP Tryz.prog 163 [encV v,.int .i64 n] (.bool (tagV n v))
 | .mk a ks,n,hv=>by
  have hv':=V.fit_kids hv
  simp only[V.kids] at hv'
  have hk1:=qej 200 [.ptr [.int .i64 n]] rfl (fun k=>!tagV n k) ks hv'.1 (fun k hk=>qvm n k (qua k n (hv'.2 k hk)))
  refine qan fn163 (by simp) ?_
  unfold i163
  simp only[argL,encV]
  refine wN ?_
  refine wR0 0 [2,3] cJ0 ?_
  refine wN ?_
  rcases hall:(decide (a≥0)&&decide (a<n)) with _ | _
  ·refine wR0 100 [4] @hall ?_
   refine wN ?_
   refine qaE ?_
   (try simp only)
   exact⟨by simp,_,rfl,by exact qad (by rw[tagV,hall,Bool.false_and])⟩
  ·apply W_r 100 [4] (by rfl)
   ·refine rN @hall ?_
    apply qez [(1,.live ⟨3,[.int .i64 n]⟩)]
    ·first | rfl | exact eV @hall
    ·exact eV cJ0
    ·exact qeZ rfl (by simp) (by simp[Slot.cl,clL,T.cl])
    ·exact FrzL.cons (.same (qai _ ks)) (FrzL.cons (qje (cs:=[.int .i64 n]) rfl rfl (fun c hc=>by rw[List.mem_singleton] at hc;subst hc;rfl) rfl) FrzL.nil)
    ·exact hk1
    ·rfl
    ·simp[clL,T.cl]
    refine rN @hall ?_
    exact rFi
   ·exact eV @hall
   simp only[thn]
   refine qaE ?_
   (try simp only)
   exact⟨by simp,_,rfl,by exact qad (by rw[tagV,hall,Bool.true_and,←qoc])⟩
termination_by v=>SizeOf.sizeOf v
decreasing_by exact qcR hk a
end
section
open Go.RowKit
theorem qnD (a b:Int):ordI b a = - ordI a b:=by
 unfold ordI;split<;>split<;>(try split)<;>omega
mutual
theorem qca:∀(a b:V),cmpV b a = - cmpV a b
 | .mk a ks,.mk b ls=>by
  simp only[cmpV]
  by_cases h1:a=b
  ·subst h1
   by_cases h2:ks.length=ls.length
   ·simp only[ne_eq,not_true_eq_false,if_false,h2];exact qmN ks ls
   ·have h2':¬ls.length=ks.length:=fun h=>h2 h.symm
    simp only[ne_eq,not_true_eq_false,if_false,h2,h2',not_false_eq_true,if_true];exact qnD _ _
  ·have h1':¬b=a:=fun h=>h1 h.symm
   simp only[ne_eq,h1,h1',not_false_eq_true,if_true];exact qnD _ _
theorem qmN:∀(ks ls:List V),cmpL ls ks = - cmpL ks ls
 | [],[]=>rfl
 | [],_::_=>rfl
 | _::_,[]=>rfl
 | k::ks,l::ls=>by
  have h:=qca k l
  simp only[cmpL]
  by_cases h0:cmpV k l=0
  ·rw[if_neg (by omega),if_neg (by omega)];exact qmN ks ls
  ·rw[if_pos (by omega),if_pos h0];exact h
end
theorem qor (a b:V):decide (cmpV b a<0)=decide (cmpV a b > 0):=by
 rw[qca a b];by_cases h:cmpV a b > 0
 ·rw[decide_eq_true h,decide_eq_true (by omega)]
 ·rw[decide_eq_false h,decide_eq_false (by omega)]
theorem qgC:∀(l:List V) (a b:V),qbq (l++[a,b])=(qbq (l++[a])&&!decide (cmpV a b > 0))
 | [],a,b=>by simp[qbq]
 | [x],a,b=>by simp[qbq]
 | x::y::l,a,b=>by
  have h:=qgC (y::l) a b
  simp only[List.cons_append,qbq] at h ⊢
  rw[h,Bool.and_assoc]
end
section
open Go.RowKit Go.Sort Go.Shelf
theorem qk0 {a b:Int}:ordI a b=0↔a=b:=by unfold ordI;split<;>(try split)<;>omega
theorem ordI_neg' {a b:Int}:ordI a b<0↔a<b:=by unfold ordI;split<;>(try split)<;>omega
mutual
theorem qfh:∀ {a b:V},cmpV a b=0→a=b
 | .mk a ks,.mk b ls,h=>by
  simp only[cmpV] at h
  by_cases h1:a=b
  ·by_cases h2:ks.length=ls.length
   ·rw[if_neg (by simp[h1]),if_neg (by simp[h2])] at h
    rw[h1,cmpL_eq h2 h]
   ·rw[if_neg (by simp[h1]),if_pos h2] at h
    have:=qk0.1 h
    omega
  ·rw[if_pos h1] at h
   exact absurd (qk0.1 h) h1
theorem cmpL_eq:∀ {ks ls:List V},ks.length=ls.length→cmpL ks ls=0→ks=ls
 | [],[],_,_=>rfl
 | [],_::_,h,_=>by simp at h
 | _::_,[],h,_=>by simp at h
 | k::ks,l::ls,h,h0=>by
  simp only[cmpL] at h0
  by_cases hk:cmpV k l=0
  ·rw[if_neg (by simp[hk])] at h0
   rw[qfh hk,cmpL_eq (by simpa using h) h0]
  ·rw[if_pos hk] at h0
   exact absurd h0 hk
end
theorem qeg (a:V):cmpV a a=0:=by have:=qca a a;omega
theorem qpN {k l:V}{ks ls:List V}:cmpL (k::ks) (l::ls)<0↔cmpV k l<0∨k=l∧cmpL ks ls<0:=by
 simp only[cmpL]
 by_cases h:cmpV k l=0
 ·have e:=qfh h
  subst e
  rw[if_neg (by simp[h])]
  constructor
  ·exact fun hl=>.inr ⟨rfl,hl⟩
  ·rintro (hl | ⟨_,hl⟩)
   ·omega
   ·exact hl
 ·rw[if_pos h]
  constructor
  ·exact fun hl=>.inl hl
  ·rintro (hl | ⟨rfl,_⟩)
   ·exact hl
   ·exact absurd (qeg k) h
theorem qpP {a b:Int}{ks ls:List V}:cmpV (.mk a ks) (.mk b ls)<0↔a<b∨a=b∧(ks.length<ls.length∨ks.length=ls.length∧cmpL ks ls<0):=by
 simp only[cmpV]
 by_cases h1:a=b
 ·rw[if_neg (by simp[h1])]
  by_cases h2:ks.length=ls.length
  ·rw[if_neg (by simp[h2])]
   constructor
   ·exact fun h=>.inr ⟨h1,.inr ⟨h2,h⟩⟩
   ·rintro (h | ⟨_,h | ⟨_,h⟩⟩)
    ·omega
    ·omega
    ·exact h
  ·rw[if_pos h2,ordI_neg']
   constructor
   ·exact fun h=>.inr ⟨h1,.inl (by omega)⟩
   ·rintro (h | ⟨_,h | ⟨h,_⟩⟩)
    ·omega
    ·omega
    ·exact absurd h h2
 ·rw[if_pos h1,ordI_neg']
  constructor
  ·exact fun h=>.inl h
  ·rintro (h | ⟨h,_⟩)
   ·exact h
   ·exact absurd h h1
mutual
theorem qeK:∀ {a b c:V},cmpV a b<0→cmpV b c<0→cmpV a c<0
 | .mk a ks,.mk b ls,.mk c ms,h,h'=>by
  rw[qpP] at h h' ⊢
  rcases h with h | ⟨h,h1 | ⟨h1,h2⟩⟩
  ·rcases h' with h' | ⟨h',_⟩
   ·exact .inl (by omega)
   ·exact .inl (by omega)
  ·rcases h' with h' | ⟨h',h3 | ⟨h3,h4⟩⟩
   ·exact .inl (by omega)
   ·exact .inr ⟨by omega,.inl (by omega)⟩
   ·exact .inr ⟨by omega,.inl (by omega)⟩
  ·rcases h' with h' | ⟨h',h3 | ⟨h3,h4⟩⟩
   ·exact .inl (by omega)
   ·exact .inr ⟨by omega,.inl (by omega)⟩
   ·exact .inr ⟨by omega,.inr ⟨by omega,qil h1 h3 h2 h4⟩⟩
theorem qil:∀ {ks ls ms:List V},ks.length=ls.length→ls.length=ms.length→cmpL ks ls<0→cmpL ls ms<0→cmpL ks ms<0
 | [],_,_,_,_,h,_=>by simp[cmpL] at h
 | _::_,[],_,h,_,_,_=>by simp at h
 | _::_,_::_,[],_,h,_,_=>by simp at h
 | k::ks,l::ls,m::ms,e1,e2,h,h'=>by
  rw[qpN] at h h' ⊢
  rcases h with h | ⟨rfl,h⟩
  ·rcases h' with h' | ⟨rfl,h'⟩
   ·exact .inl (qeK h h')
   ·exact .inl h
  ·rcases h' with h' | ⟨rfl,h'⟩
   ·exact .inl h'
   ·exact .inr ⟨rfl,qil (by simpa using e1) (by simpa using e2) h h'⟩
end
theorem qd0 {a b c:V}(h:¬cmpV b a<0)(h':¬cmpV c b<0):¬cmpV c a<0:=by
 have n1:=qca a b
 have n2:=qca b c
 have n3:=qca a c
 intro h3
 by_cases e1:cmpV a b=0
 ·have e:=qfh e1
  subst e
  exact h' h3
 ·by_cases e2:cmpV b c=0
  ·have e:=qfh e2
   subst e
   exact h h3
  ·have:=qeK (a:=a) (b:=b) (c:=c) (by omega) (by omega)
   omega
theorem qsd:SWO (ltOf cmpV):=by
 refine⟨fun x=>by simp[ltOf,qeg],fun x y z h h'=>?_,fun x y z h h'=>?_⟩
 ·simp only[ltOf,decide_eq_true_eq] at *;exact qeK h h'
 ·simp only[ltOf,decide_eq_false_iff_not] at *;exact qd0 h' h
theorem qpO {a b:V}(h:¬cmpV b a<0)(h':¬cmpV a b<0):a=b:=by
 have:=qca a b
 exact qfh (by omega)
def Asc (l:List V):Prop:=l.Pairwise fun a b=>¬cmpV b a<0
theorem qij:∀ {xs ys:List V},xs.Perm ys→Asc xs→Asc ys→xs=ys
 | [],ys,h,_,_=>by simpa using h.symm
 | x::xs,[],h,_,_=>by simp at h
 | x::xs,y::ys,h,hx,hy=>by
  have hx':=List.pairwise_cons.1 hx
  have hy':=List.pairwise_cons.1 hy
  have e:x=y:=by
   have m1:x∈y::ys:=h.mem_iff.1 (List.mem_cons_self ..)
   have m2:y∈x::xs:=h.mem_iff.2 (List.mem_cons_self ..)
   rcases List.mem_cons.1 m1 with e | m1
   ·exact e
   ·rcases List.mem_cons.1 m2 with e | m2
    ·exact e.symm
    ·exact qpO (hx'.1 y m2) (hy'.1 x m1)
  subst e
  rw[qij (List.perm_cons x |>.1 h) hx'.2 hy'.2]
theorem qhD (x:V):∀ys:List V,(insR x ys).Perm (x::ys)
 | []=>List.Perm.refl _
 | y::ys=>by
  unfold insR
  split
  ·exact ((qhD x ys).cons y).trans (List.Perm.swap x y ys)
  ·exact List.Perm.refl _
theorem qkG (x:V):∀ys:List V,ys.Pairwise (fun a b=>¬cmpV a b<0)→(insR x ys).Pairwise fun a b=>¬cmpV a b<0
 | [],_=>by simp[insR]
 | y::ys,h=>by
  have h':=List.pairwise_cons.1 h
  unfold insR
  split
  ·rename_i hlt
   refine List.pairwise_cons.2 ⟨fun z hz=>?_,qkG x ys h'.2⟩
   rcases List.mem_cons.1 ((qhD x ys).mem_iff.1 hz) with rfl | hz
   ·have:=qca z y;omega
   ·exact h'.1 z hz
  ·rename_i hge
   refine List.pairwise_cons.2 ⟨fun z hz=>?_,h⟩
   rcases List.mem_cons.1 hz with rfl | hz
   ·exact hge
   ·exact qd0 (h'.1 z hz) hge
theorem qhG:∀(l acc:List V),(qcg acc l).Perm (l++acc)
 | [],acc=>List.Perm.refl _
 | x::l,acc=>by
  rw[qd5]
  refine (qhG l (insR x acc)).trans ?_
  refine ((qhD x acc).append_left l).trans ?_
  exact List.perm_middle
theorem qhF:∀(l acc:List V),acc.Pairwise (fun a b=>¬cmpV a b<0)→(qcg acc l).Pairwise fun a b=>¬cmpV a b<0
 | [],acc,h=>h
 | x::l,acc,h=>by
  rw[qd5]
  exact qhF l _ (qkG x acc h)
def qbu (l:List V):List V:=(qcg [] l).reverse
theorem qbJ (l:List V):(qbu l).Perm l:=(List.reverse_perm _).trans (by simpa using qhG l [])
theorem qlt (l:List V):Asc (qbu l):=List.pairwise_reverse.2 (qhF l [] List.Pairwise.nil)
theorem qjY {l zs:List V}(h:zs.Perm l)(hz:Asc zs):zs=qbu l:=qij (h.trans (qbJ l).symm) hz (qlt l)
theorem qcJ (l:List V):(qbu l).length=l.length:=(qbJ l).length_eq
end
section
def SAsc (l:List V):Prop:=l.Pairwise fun a b=>cmpV a b<0
theorem qh0:∀ {xs ys:List V},SAsc xs→SAsc ys→(∀z,z∈xs↔z∈ys)→xs=ys
 | [],[],_,_,_=>rfl
 | [],y::ys,_,_,h=>by have:=(h y).2 (List.mem_cons_self ..);cases this
 | x::xs,[],_,_,h=>by have:=(h x).1 (List.mem_cons_self ..);cases this
 | x::xs,y::ys,hx,hy,h=>by
  have hx':=List.pairwise_cons.1 hx
  have hy':=List.pairwise_cons.1 hy
  have e:x=y:=by
   rcases List.mem_cons.1 ((h x).1 (List.mem_cons_self ..)) with e | m1
   ·exact e
   ·rcases List.mem_cons.1 ((h y).2 (List.mem_cons_self ..)) with e | m2
    ·exact e.symm
    ·have a1:=hx'.1 y m2
     have a2:=hy'.1 x m1
     have:=qca x y
     omega
  subst e
  rw[qh0 hx'.2 hy'.2 fun z=>?_]
  constructor
  ·intro hz
   rcases List.mem_cons.1 ((h z).1 (List.mem_cons_of_mem _ hz)) with e | m
   ·have:=hx'.1 z hz
    rw[e,qeg] at this
    omega
   ·exact m
  ·intro hz
   rcases List.mem_cons.1 ((h z).2 (List.mem_cons_of_mem _ hz)) with e | m
   ·have:=hy'.1 z hz
    rw[e,qeg] at this
    omega
   ·exact m
def ddp (p:V):List V→List V
 | []=>[]
 | x::l=>if cmpV x p=0 then ddp x l else x::ddp x l
def qaV:List V→List V
 | []=>[]
 | x::l=>x::ddp x l
theorem qp0:∀(l:List V) (p z:V),z∈p::ddp p l↔z∈p::l
 | [],p,z=>Iff.rfl
 | x::l,p,z=>by
  have ih:=qp0 l x z
  simp only[ddp]
  by_cases h:cmpV x p=0
  ·rw[if_pos h]
   have e:=qfh h
   subst e
   rw[ih]
   simp
  ·rw[if_neg h]
   simp only[List.mem_cons] at ih ⊢
   rw[ih]
theorem qmZ:∀(l:List V) (p:V),Asc (p::l)→SAsc (p::ddp p l)
 | [],p,_=>List.pairwise_singleton ..
 | x::l,p,h=>by
  have h':=List.pairwise_cons.1 h
  have ih:=qmZ l x h'.2
  simp only[ddp]
  by_cases he:cmpV x p=0
  ·rw[if_pos he]
   have e:=qfh he
   subst e
   exact ih
  ·rw[if_neg he]
   have hlt:cmpV p x<0:=by
    have a1:=h'.1 x (List.mem_cons_self ..)
    have:=qca x p
    omega
   refine List.pairwise_cons.2 ⟨fun z hz=>?_,ih⟩
   rcases List.mem_cons.1 hz with rfl | hz
   ·exact hlt
   ·exact qeK hlt ((List.pairwise_cons.1 ih).1 z hz)
theorem qei (l:List V)(z:V):z∈qaV l↔z∈l:=by
 cases l with
 | nil=>exact Iff.rfl
 | cons x l=>exact qp0 l x z
theorem qi2 {l:List V}(h:Asc l):SAsc (qaV l):=by
 cases l with
 | nil=>exact List.Pairwise.nil
 | cons x l=>exact qmZ l x h
end
section
open Go.RowKit
set_option maxHeartbeats 2000000
theorem qfH (xs:List V)(v:V)(ys:List V)(i:Nat)(h:i=xs.length*2):List.take 2 (List.drop i (qaq (xs++v::ys)))=[.int .i64 v.n,.list (qac v.kids)]:=by
 subst h
 rw[qa8,←qaz,List.drop_left];rfl
theorem qmY (kept junk rest:List V)(p x:V)(k:Nat)(hk:kept.length=k):∃junk':List V,junk'.length=junk.length∧List.take ((k:Int).toNat*2) (qaq (kept++junk++p::x::rest))++[.int .i64 x.n,.list (qac x.kids)]++List.drop ((k:Int).toNat*2+2) (qaq (kept++junk++p::x::rest))=qaq (kept++[x]++junk'++x::rest):=by
 obtain⟨y,junk',e⟩:∃y junk',junk++[p]=y::junk':=by cases junk with
  | nil=>exact⟨p,[],rfl⟩
  | cons z j=>exact⟨z,j++[p],rfl⟩
 have hl:junk'.length=junk.length:=by have:=congrArg List.length e;simpa using this.symm
 have e2:kept++junk++p::x::rest=kept++y::(junk'++x::rest):=by
  have:kept++junk++p::x::rest=kept++((junk++[p])++x::rest):=by simp
  rw[this,e];rfl
 refine⟨junk',hl,?_⟩
 rw[e2,qc6 _ _ _ hk,qc5 _ _ _ _ hk]
 simp only[qa8,qaq,List.append_assoc,List.cons_append,List.nil_append]
theorem cp_l1 (f:FuncId)(N k0 n2:Nat)(hN:n2+k0=N)(hNl:N≤1000000)(R:List V)(hf:∀a b:V,a.fit→b.fit→TP Tryz.prog f [encV a,encV b] (.bool (cmpV a b==0)))(Q:IExit→(Nat→T)→Heap→Prop)
 (hQ:∀(kept junk:List V) (k2:Int),kept=R→kept.length+junk.length=N→Q (.exit 2) (ofL [(0,.sl 700 (N*2) 2 0 N),(1,.fn f []),(5,.int .i64 kept.length),(6,.sl 700 (N*2) 2 (k0*2) n2),(7,.int .i64 k2),(35,.bool false)]) (hpL [(700,.live ⟨25,qaq (kept++junk)⟩)])) :
 ∀(rest kept junk:List V) (p:V) (k k2:Nat),kept.length=k→junk.length+k+1=k0+k2→1≤k2→junk.length+rest.length+1+k=N→kept++ddp p rest=R→(∀v∈p::rest,v.fit)→
 WL Tryz.prog 66 qna (ofL [(0,.sl 700 (N*2) 2 0 N),(1,.fn f []),(5,.int .i64 k),(6,.sl 700 (N*2) 2 (k0*2) n2),(7,.int .i64 k2)]) (hpL [(700,.live ⟨25,qaq (kept++junk++p::rest)⟩)]) Q:=by
 intro rest
 induction rest with
 | nil=>
  intro kept junk p k k2 hk hj h1 hl hR hv
  have hd:decide ((k2:Int)<(n2:Int))=false:=by simp at hl ⊢;omega
  subst hk
  have fX:=@hd
  refine qaa qna.eq_1 ?_
  refine wR0 800 [0,1,5,6,7,35] fX ?_
  refine wF @hd ?_
  refine wX ?_
  refine wN ?_
  rw[List.append_assoc]
  exact hQ kept (junk++[p]) _ (by simpa [ddp] using hR) (by simp at hl ⊢;omega)
 | cons x rest ih=>
  intro kept junk p k k2 hk hj h1 hl hR hv
  have hd:decide ((k2:Int)<(n2:Int))=true:=by simp at hl ⊢;omega
  have hlt:(k2:Int)<(n2:Int):=by simp at hl;omega
  have hlt1:(k2:Int) - 1<(n2:Int):=by omega
  have hlt0:0≤(k2:Int) - 1:=by omega
  have hltk:(k:Int)<(N:Int):=by omega
  have hw:IntKind.wrap .i64 ((k2:Int)+1)=(k2:Int)+1:=wrap64 (by omega) (by omega)
  have hw1:IntKind.wrap .i64 ((k2:Int) - 1)=(k2:Int) - 1:=wrap64 (by omega) (by omega)
  have hw2:IntKind.wrap .i64 ((k:Int)+1)=(k:Int)+1:=wrap64 (by omega) (by omega)
  have hr1:List.take 2 (List.drop (k0*2+(k2:Int).toNat*2) (qaq (kept++junk++p::x::rest)))=[.int .i64 x.n,.list (qac x.kids)]:=by
   have e:kept++junk++p::x::rest=(kept++junk++[p])++x::rest:=by simp
   rw[e];exact qfH _ _ _ _ (by simp;omega)
  have hr2:List.take 2 (List.drop (k0*2+((k2:Int) - 1).toNat*2) (qaq (kept++junk++p::x::rest)))=[.int .i64 p.n,.list (qac p.kids)]:=qfH _ _ _ _ (by simp;omega)
  have hlen:(qaq (kept++junk++p::x::rest)).length=N*2:=by rw[qaz];simp at hl ⊢;omega
  have hfx:=hf x p (hv x (by simp)) (hv p (by simp))
  rw[qel,qel] at hfx
  have fX:=(cJ7 @hd @hw @hw1 @hw2 @hr1 @hr2 @hlen)
  refine qaa qna.eq_1 ?_
  refine wR0 800 [0,1,5,6,7,35] fX ?_
  refine wT @hd ?_
  refine wRn 900 [0,1,5,6,7,49] fX ?_
  refine rCv fX ?_
  refine⟨_,hfx,rE fX ?_⟩
  refine wS cJ0 (fun hc900=>?_) (fun hc900=>?_)
  ·skip
   refine wR0 1000 [0,1,5,6,7] fX ?_
   refine wR0 1100 [0,1,5,6,7] fX ?_
   refine wR0 1200 [0,1,5,6,7] fX ?_
   refine wN ?_
   first | (have q:cmpV x p≠0:=(by simpa using hc900);obtain⟨junk',hjl,e⟩:=qmY kept junk rest p x k hk;rw[e];exact ih (kept++[x]) junk' x (k+1) (k2+1) (by simp[hk]) (by omega) (by omega) (by simp at hl;omega) (by rw[ddp,if_neg q] at hR;simpa using hR) (fun v hv'=>hv v (List.mem_cons_of_mem _ hv'))) | (have q:cmpV x p=0:=(by simpa using hc900);have e:kept++junk++p::x::rest=kept++(junk++[p])++x::rest:=(by simp);rw[e];exact ih kept (junk++[p]) x k (k2+1) hk (by simp;omega) (by omega) (by simp at hl ⊢;omega) (by rw[ddp,if_pos q] at hR;exact hR) (fun v hv'=>hv v (List.mem_cons_of_mem _ hv')))
  ·skip
   refine wR0 1200 [0,1,5,6,7] fX ?_
   refine wN ?_
   first | (have q:cmpV x p≠0:=(by simpa using hc900);obtain⟨junk',hjl,e⟩:=qmY kept junk rest p x k hk;rw[e];exact ih (kept++[x]) junk' x (k+1) (k2+1) (by simp[hk]) (by omega) (by omega) (by simp at hl;omega) (by rw[ddp,if_neg q] at hR;simpa using hR) (fun v hv'=>hv v (List.mem_cons_of_mem _ hv'))) | (have q:cmpV x p=0:=(by simpa using hc900);have e:kept++junk++p::x::rest=kept++(junk++[p])++x::rest:=(by simp);rw[e];exact ih kept (junk++[p]) x k (k2+1) hk (by simp;omega) (by omega) (by simp at hl ⊢;omega) (by rw[ddp,if_pos q] at hR;exact hR) (fun v hv'=>hv v (List.mem_cons_of_mem _ hv')))
theorem qlS:∀(l:List V) (p:V),(ddp p l).length≤l.length
 | [],p=>Nat.le_refl _
 | x::l,p=>by
  have:=qlS l x
  simp only[ddp];split<;>simp<;>omega
theorem cp_l0 (f:FuncId)(N:Nat)(hNl:N≤1000000)(R:List V)(hf:∀a b:V,a.fit→b.fit→TP Tryz.prog f [encV a,encV b] (.bool (cmpV a b==0)))(Q:IExit→(Nat→T)→Heap→Prop)
 (hQ0:∀(k:Int),R.length=N→Q (.exit 0) (ofL [(0,.sl 700 (N*2) 2 0 N),(1,.fn f []),(5,.int .i64 k),(15,.bool false)]) (hpL [(700,.live ⟨25,qaq R⟩)]))
 (hQ1:R.length≤N→Q .ret (ofL [(4,.sl 700 (N*2) 2 0 R.length)]) (hpL [(700,.live ⟨25,qaq R++repl (N - R.length) [.int .i64 0,.nil]⟩)])) :
 ∀(rest pre:List V) (p:V) (k:Nat),pre.length+1=k→pre.length+1+rest.length=N→pre++p::ddp p rest=R→(∀v∈p::rest,v.fit)→
 WL Tryz.prog 66 qm9 (ofL [(0,.sl 700 (N*2) 2 0 N),(1,.fn f []),(5,.int .i64 k)]) (hpL [(700,.live ⟨25,qaq (pre++p::rest)⟩)]) Q:=by
 intro rest
 induction rest with
 | nil=>
  intro pre p k hk hl hR hv
  have hd:decide ((k:Int)<(N:Int))=false:=by simp at hl ⊢;omega
  simp only[ddp] at hR
  have fX:=@hd
  refine qaa qm9.eq_1 ?_
  refine wR0 400 [0,1,5,15] fX ?_
  refine wF @hd ?_
  refine wX ?_
  refine wN ?_
  rw[hR]
  exact hQ0 _ (by rw[←hR];simpa using hl)
 | cons x rest ih=>
  intro pre p k hk hl hR hv
  have hlt:(k:Int)<(N:Int):=by simp at hl;omega
  have hlt1:(k:Int) - 1<(N:Int):=by omega
  have hlt0:0≤(k:Int) - 1:=by omega
  have hd:decide ((k:Int)<(N:Int))=true:=decide_eq_true hlt
  have hw:IntKind.wrap .i64 ((k:Int)+1)=(k:Int)+1:=wrap64 (by omega) (by omega)
  have hw1:IntKind.wrap .i64 ((k:Int) - 1)=(k:Int) - 1:=wrap64 (by omega) (by omega)
  have hr1:List.take 2 (List.drop ((k:Int).toNat*2) (qaq (pre++p::x::rest)))=[.int .i64 x.n,.list (qac x.kids)]:=by
   have e:pre++p::x::rest=(pre++[p])++x::rest:=by simp
   rw[e];exact qfH _ _ _ _ (by simp;omega)
  have hr2:List.take 2 (List.drop (((k:Int) - 1).toNat*2) (qaq (pre++p::x::rest)))=[.int .i64 p.n,.list (qac p.kids)]:=qfH _ _ _ _ (by omega)
  have hlen:(qaq (pre++p::x::rest)).length=N*2:=by rw[qaz];simp at hl ⊢;omega
  have hfx:=hf x p (hv x (by simp)) (hv p (by simp))
  rw[qel,qel] at hfx
  have fX:=(cJ6 @hd @hw @hw1 @hr1 @hr2 @hlen)
  refine qaa qm9.eq_1 ?_
  refine wR0 400 [0,1,5,15] fX ?_
  refine wT @hd ?_
  refine wRn 500 [0,1,5,28] fX ?_
  refine rCv fX ?_
  refine⟨_,hfx,rE fX ?_⟩
  simp only[thn]
  have hkn:¬((k:Int).toNat=N):=(by omega)
  refine wS cJ0 (fun hc500=>?_) (fun hc500=>?_)
  ·skip
   refine wR0 600 [0,1,5,6] (cJ2 @hkn fX) ?_
   refine wR0 700 [0,1,5,6,7] fX ?_
   simp only[thn]
   have q:cmpV x p=0:=(by simpa using hc500)
   have hRN:R.length<N:=(by have h9:=qlS rest x;rw[←hR,ddp,if_pos q];simp at hl ⊢;omega)
   have e:pre++p::x::rest=pre++[p]++[]++x::rest:=(by simp)
   rw[e]
   (try simp only[Int.toNat_natCast])
   refine wL ?_
   refine cp_l1 f N k (N - k) (by omega) hNl R hf _ ?_ rest (pre++[p]) [] x k 1 (by simp<;>omega) (by simp<;>omega) (by omega) (by simp at hl ⊢<;>omega) (by rw[ddp,if_pos q] at hR;simpa using hR) (fun v hv'=>hv v (List.mem_cons_of_mem _ hv'))
   ·intro kept junk k2 hkR hkl
    refine wN ?_
    refine wN ?_
    have hkn2:¬(kept.length=N):=(by rw[hkR];omega)
    have hkle:kept.length≤N:=(by omega)
    have hrep:(repl (N - kept.length) [T.int .i64 0,T.nil]).length=(N - kept.length)*2:=(by rw[qa5];rfl)
    have hlen2:(qaq (kept++junk)).length=N*2:=(by rw[qaz];simp;omega)
    refine wR0 1300 [0,5] (cJ5 @Int.toNat_natCast @hkn2 @hlen2 @hrep fX) ?_
    refine wR0 1400 [4] (cJ4 @Int.toNat_natCast @hkn2 @hlen2 fX) ?_
    refine wE ?_
    refine wN ?_
    have hk0:¬(0=kept.length):=(by rw[hkR,←hR];simp)
    have e1:List.take (kept.length*2) (qaq (kept++junk))=qaq kept:=(by rw[qa8,←qaz,List.take_left])
    have e2:List.drop (kept.length*2+(N - kept.length)*2) (qaq (kept++junk))=[]:=List.drop_eq_nil_of_le (by rw[hlen2];omega)
    rw[if_neg hk0,Nat.sub_zero,e1,e2,List.append_nil]
    subst hkR
    exact hQ1 hkle
  ·skip
   refine wR0 1500 [0,1,5] fX ?_
   refine wN ?_
   have e:pre++p::x::rest=pre++[p]++x::rest:=(by simp)
   rw[e]
   exact ih (pre++[p]) x (k+1) (by simp;omega) (by simp at hl ⊢;omega) (by have q:cmpV x p≠0:=(by simpa using hc500);rw[ddp,if_neg q] at hR;simpa using hR) (fun v hv'=>hv v (List.mem_cons_of_mem _ hv'))
theorem qso {H:Heap}{id ty tot:Nat}(ks:List V)(z:List T)(hb:H id=.live ⟨ty,qaq ks++z⟩)(ht:(qaq ks++z).length=tot):Frz H (.sl id tot 2 0 ks.length) (.list (qac ks)):=by
 have hl:=qaz ks
 refine Frz.sl hb ht (by rw[←ht,List.length_append,hl];simp[esz]) (qag ks) (qcD ks) (by rw[←qbr];exact qbI ks) fun k hk=>?_
 rw[←qbr,Nat.zero_add]
 simp only
 have hk':k<(qaq ks).length:=by rw[hl];simpa [esz] using hk
 rw[List.getD_eq_getElem?_getD,List.getElem?_append_left hk',←List.getD_eq_getElem?_getD]
 exact .same (qbb (qay _ ks) k)
theorem qdh (xs:List V):(qaV xs).length≤xs.length:=by
 cases xs with
 | nil=>exact Nat.le_refl _
 | cons x l=>have:=qlS l x;simp only[qaV,List.length_cons];omega
def qfu (xs:List V):List T:=repl (xs.length - (qaV xs).length) [.int .i64 0,.nil]
theorem qrK (xs:List V):(qaq (qaV xs)++qfu xs).length=xs.length*2:=by
 have:=qdh xs
 rw[List.length_append,qaz,qfu,qa5];simp;omega
theorem qlP (f:FuncId)(x:V)(l:List V)(N:Nat)(hN:(x::l).length=N)(hl:N≤1000000)(hv:∀v∈x::l,v.fit)(hf:∀a b:V,a.fit→b.fit→TP Tryz.prog f [encV a,encV b] (.bool (cmpV a b==0))) :
 TC Tryz.prog 45 [.sl 700 (N*2) 2 0 N,.fn f []] (hpL [(700,.live ⟨25,qaq (x::l)⟩)]) (.sl 700 (N*2) 2 0 (qaV (x::l)).length) (hpL [(700,.live ⟨25,qaq (qaV (x::l))++qfu (x::l)⟩)]):=by
 have ht0:(qaV (x::l)).length=N→qfu (x::l)=[]:=fun h=>by rw[qfu,hN,h];simp[repl]
 have ht1:repl (N - (qaV (x::l)).length) [T.int .i64 0,T.nil]=qfu (x::l):=by rw[qfu,hN]
 by_cases h2:(N:Int)<2
 ·have hd:decide ((N:Int)<2)=true:=decide_eq_true h2
  obtain rfl:l=[]:=List.eq_nil_of_length_eq_zero (by simp at hN;omega)
  have h1:(qaV [x]).length=N:=hN
  rw[h1,ht0 h1]
  have fX:=@hd
  refine qcj fn45 (by simp) ?_
  unfold i45
  simp only[argL]
  refine wR0 0 [0,1] fX ?_
  refine wR0 100 [0,1,10] fX ?_
  refine wT @hd ?_
  refine wR0 200 [4] fX ?_
  refine wE ?_
  refine wN ?_
  exact⟨by simp,rfl,rfl⟩
 ·have hd:decide ((N:Int)<2)=false:=decide_eq_false h2
  have fX:=@hd
  refine qcj fn45 (by simp) ?_
  unfold i45
  simp only[argL]
  refine wR0 0 [0,1] fX ?_
  refine wR0 100 [0,1,10] fX ?_
  refine wF @hd ?_
  refine wR0 300 [0,1,5] fX ?_
  refine wL ?_
  refine cp_l0 f N hl (qaV (x::l)) hf _ ?_ ?_ l [] x 1 rfl (by simp at hN ⊢;omega) rfl hv
  ·intro k hR
   refine wN ?_
   refine wR0 1600 [4] fX ?_
   refine wE ?_
   refine wN ?_
   exact⟨by simp,by rw[hR];rfl,by rw[ht0 hR,List.append_nil]⟩
  ·intro hR
   refine wN ?_
   exact⟨by simp,rfl,by rw[ht1]⟩
theorem qos (f:FuncId)(xs:List V)(hne:xs≠[])(hl:xs.length≤1000000)(hv:∀v∈xs,v.fit)(hf:∀a b:V,a.fit→b.fit→TP Tryz.prog f [encV a,encV b] (.bool (cmpV a b==0))) :
 TC Tryz.prog 45 [.sl 700 (xs.length*2) 2 0 xs.length,.fn f []] (hpL [(700,.live ⟨25,qaq xs⟩)]) (.sl 700 (xs.length*2) 2 0 (qaV xs).length) (hpL [(700,.live ⟨25,qaq (qaV xs)++qfu xs⟩)]):=by
 rcases xs with _ | ⟨x,l⟩
 ·exact absurd rfl hne
 ·exact qlP f x l _ rfl hl hv hf
end
section
open Go.RowKit Go.Sort Go.Shelf
theorem qgg:∀xs:List V,qaq xs=rowW (fun v=>[T.int .i64 v.n,T.list (qac v.kids)]) xs
 | []=>rfl
 | x::xs=>by rw[qaq,qgg xs];rfl
theorem qh6:Enters Tryz.prog 43:=enters_of Tryz.func43 (by kernel_rfl) rfl
theorem qn4 (id ty:Nat)(xs:List V)(hne:xs≠[])(hl:xs.length≤1000000)(hv:∀v∈xs,v.fit) :
 TC Tryz.prog 43 [.sl id (xs.length*2) 2 0 xs.length,.fn 44 []] (hpL [(id,.live ⟨ty,qaq xs⟩)]) (.tup []) (hpL [(id,.live ⟨ty,qaq (qbu xs)⟩)]):=by
 rw[qgg,qgg]
 refine qvj Tryz.sorts43 _ 2 (fun _=>rfl) (fun x D=>by simp[clL,T.cl,qai]) (fun x c hc=>?_) (fun w=>?_) (fun w=>?_) cmpV qsd _ id ty xs (qbu xs) hne (by omega) (fun x hx y hy=>?_) (fun zs hp ha=>qjY hp ha) qh6
 ·simp only[List.mem_cons,List.not_mem_nil,or_false] at hc
  rcases hc with rfl | rfl<;>rfl
 ·exact Tryz.isAgg25 w
 ·exact Tryz.sizeOf25 w
 ·have:=qjI x y (hv x hx) (hv y hy)
  rwa [qel,qel] at this
theorem qgA (g:Nat):TC Tryz.prog 43 [.nil,.fn g []] (fun _=>.free) (.tup []) (fun _=>.free):=by
 refine⟨qh6,fun w A μ vs hS hR=>?_⟩
 obtain⟨hs,hr⟩:=hR
 have hvs:vs=#[vs.getD 0 Go.undef,vs.getD 1 Go.undef]:=by
  refine Array.ext (by simpa using hs) fun i hi _=>?_
  have h2:vs.size=2:=by simpa using hs
  match i,(by omega:i<2) with
  | 0,_=>simp[hi]
  | 1,_=>simp[hi]
 have r0:=hr 0 (by simp)
 rw[hvs]
 generalize vs.getD 0 Go.undef=v0 at r0 ⊢
 generalize vs.getD 1 Go.undef=v1 at ⊢
 simp only[List.getD_eq_getElem?_getD,List.getElem?_cons_zero,Option.getD_some] at r0
 cases r0
 refine (AnyF.slices_SortFunc_none (P:=Tryz.prog) Tryz.sorts43 none 0 v1 w).mono ?_
 rintro en w' ⟨rfl,rfl⟩
 exact⟨_,A,μ,rfl,.tup #[] [] rfl (fun i hi=>by cases hi),hS,.refl _ _ _ _⟩
end
end Go.Proofs.YtpplncjaihgimaaGreat
