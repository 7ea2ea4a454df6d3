/- Contracts of functions of the program, for all arguments that they name. -/
import Derived.Shelf.SlSortCmp.Insertion
import Derived.Test.YtoeeppojakbciaaGreatK07
import Derived.Test.YtoeeppojakbciaaGreatK08
import Derived.Test.YtoeeppojakbciaaGreatK24
namespace Go.Proofs.YtoeeppojakbciaaGreat
set_option linter.unusedVariables false
section
open Go.RowKit
set_option maxHeartbeats 2000000
attribute [local simp] qbd qae qal
theorem qfo:∀l:List Nn,flat (qbj l)=qcK l
 | []=>rfl
 | x::l=>by
  have:=qfo l
  simp only[qbj,List.map_cons] at this ⊢
  simp only[qcK,List.flatMap_cons] at this ⊢
  rw[←this];rfl
theorem qjx {H:Heap}{id:Nat}(l:List Nn)(next:Int)(hb:H id=sG l):Frz H (.agg (grT id l next)) (qbs l next):=by
 have hlen:=qcz l
 have h0:Frz H (.sl id (l.length*4) 4 0 l.length) (.list (qbj l)):=by
  refine .sl hb hlen (by simp[esz]) (qby l) (qjj l) (by rw[qfo];exact qfm l) fun k hk=>?_
  rw[qfo,Nat.zero_add]
  exact .same (qa5 (qbd _ l) k)
 refine .agg rfl (fun c hc=>?_) fun i hi=>?_
 ·simp only[grC,List.mem_cons,List.not_mem_nil,or_false] at hc
  rcases hc with rfl | rfl<;>rfl
 ·match i,hi with
  | 0,_=>exact h0
  | 1,_=>exact .same rfl
theorem qbX {H:Heap}{a b a' b':T}(h1:Frz H a a')(h2:Frz H b b'):Frz H (.tup [a,b]) (.tup [a',b']):=.tup rfl fun i hi=>by
 match i,hi with
 | 0,_=>exact h1
 | 1,_=>exact h2
theorem qd2 {H:Heap}{a b c a' b' c':T}(h1:Frz H a a')(h2:Frz H b b')(h3:Frz H c c'):Frz H (.tup [a,b,c]) (.tup [a',b',c']):=.tup rfl fun i hi=>by
 match i,hi with
 | 0,_=>exact h1
 | 1,_=>exact h2
 | 2,_=>exact h3
def qdf (s:Int)(v:List Int):Nn:=⟨s,v,-1,-1⟩
theorem qaI (s:Int):encV (natV s)=.agg [.int .i64 s,.list []]:=rfl
theorem qf8 (m:Md)(hm:m.fit)(hc:qbW m=0)(s:Int)(v:List Int)(hs:m.start=cfV s v)(hl:v.length≤1000000):TP Tryz.prog 9 [qas m] (.tup [qbs [qdf s v] 0,.int .i64 0]):=by
 have hct:=qjh m hm
 rw[hc] at hct
 have hn:=qlk s v hl
 rw[qa3] at hn
 have hsn:m.start.n=0:=by rw[hs];rfl
 have hsk:m.start.kids=natV s::v.map natV:=by rw[hs];rfl
 have hk:qag (natV s::v.map natV)=encV (natV s)::qag (v.map natV):=rfl
 simp only[qas,mdC,hsn,hsk,hk,qaI] at hct hn ⊢
 have hg0:(T.agg [.int .i64 s,.list []]::qag (v.map natV)).getD (Int.toNat 0) .undef=.agg [.int .i64 s,.list []]:=rfl
 have fX:=(cJ2 @qaK @hg0)
 refine qah fn9 (by simp) ?_
 unfold i9
 simp only[argL]
 refine wR0 0 [1,2] fX ?_
 refine wRn 100 [1,2,4] fX ?_
 refine rC fX ?_
 refine⟨_,hct,rE fX ?_⟩
 refine wR0 200 [1,2,4,8] fX ?_
 refine wF fX ?_
 refine wRn 400 [2,3] fX ?_
 refine rC fX ?_
 refine⟨_,hn,rE fX ?_⟩
 refine wP ?_
 exact qbX (qjx [qdf s v] 0 rfl) (.same rfl)
theorem qia (l:List Nn)(next:Int):TP Tryz.prog 11 [qbs l next] (.bool (decide (next≥l.length))):=by
 have hl:=qby l
 have fX:=@hl
 refine qah fn11 (by simp) ?_
 unfold i11
 simp only[argL,qbs,grC]
 refine wR0 0 [1] fX ?_
 refine wR0 100 [2] fX ?_
 refine wP ?_
 exact qab rfl
theorem qqQ (m:Md)(hm:m.rules.length≤1000000)(at_ N:Nat)(l:List Nn)(ht:TreeOk N l)(hN:0<N)(hvl:N≤1000000)(hat:at_<l.length)(hr:∀r∈m.rules,RoomR r (l.getD at_ default).vec) :
 TC Tryz.prog 53 [qas m,.ref 602 2 0] (hpL [(700,sG l),(602,sGr l at_)]) (.int .i64 (qcq m l at_).1) (hpL [(700,sG (qcq m l at_).2),(602,sGr (qcq m l at_).2 (at_+1:Nat))]):=by
 have q1:∀(σ:Nat→Nat) (l:List Nn),renL σ (qcK l)=qcK l:=fun σ l=>qbF _ (qbd _ l)
 have q2:∀(σ:Nat→Nat),(qas m).ren σ=qas m:=fun σ=>T.ren_fro _ (qqF _ m)
 refine qi6 [(702,602)] (qtc m hm at_ N l ht hN hvl hat hr) ?_ ?_ ?_ ?_
 ·simp[renL,T.ren,q2,swps,swp]
 ·simp[Slot.ren,renL,T.ren,swps,swp,q1]
 ·simp[T.ren]
 ·simp[Slot.ren,renL,T.ren,swps,swp,q1]
def qp2 (m:Md)(l:List Nn)(k:Nat):List Nn×Nat×Bool×Int:=
 if l.length≤k then (l,k,false,0) else if (qcq m l k).1=0 then ((qcq m l k).2,k+1,true,0) else (l,k,false,(qcq m l k).1)
def stepT (x:List Nn×Nat×Bool×Int):T:=.tup [qbs x.1 x.2.1,.bool x.2.2.1,.int .i64 x.2.2.2]
set_option maxHeartbeats 4000000 in
theorem qtX (m:Md)(hm:m.fit)(hc:qbW m=0)(k N:Nat)(l:List Nn)(ht:TreeOk N l)(hN:0<N)(hvl:N≤1000000)(hr:k<l.length→∀r∈m.rules,RoomR r (l.getD k default).vec):TP Tryz.prog 31 [qas m,qbs l k] (stepT (qp2 m l k)):=by
 have hct:=qjh m hm
 rw[hc] at hct
 have hdn:=qia l k
 have hll:=ht.len
 have hvv:∀j,j<l.length→(l.getD j default).vec≠[]∧(l.getD j default).vec.length≤1000000:=fun j hj=>by
  have:=ht.vec j hj
  exact⟨by intro e;rw[e] at this;simp at this;omega,by omega⟩
 have ho:=qss l k (by omega) hvv
 have ho0:=qpe l k (by omega) hvv
 rw[qp2]
 by_cases hk:l.length≤k
 ·rw[if_pos hk]
  have hd:decide ((k:Int)≥l.length)=true:=decide_eq_true (by omega)
  rw[hd] at hdn
  simp only[qas,mdC,qbs,grC] at hct hdn ho ⊢
  refine qah fn31 (by simp) ?_
  unfold i31
  simp only[argL]
  refine wR0 0 [2,3,4] cJ0 ?_
  refine wRn 100 [2,3,4,7] cJ0 ?_
  refine rC cJ0 ?_
  refine⟨_,hct,rE cJ0 ?_⟩
  refine wR0 200 [2,3,4,7,13] cJ0 ?_
  refine wF cJ0 ?_
  refine wRn 400 [2,3,4,18] cJ0 ?_
  refine rC cJ0 ?_
  refine⟨_,hdn,rE cJ0 ?_⟩
  refine wT cJ0 ?_
  refine wRn 500 [4,5,6] cJ0 ?_
  refine rU [] [(700,sG l)] cJ0 ?_
  refine⟨_,ho,rE cJ0 ?_⟩
  refine wP ?_
  exact qd2 (qjx l k rfl) (.same rfl) (.same rfl)
 ·rw[if_neg hk]
  have hd:decide ((k:Int)≥l.length)=false:=decide_eq_false (by omega)
  rw[hd] at hdn
  have hg:=qqQ m (by have:=hm.rules;omega) k N l ht hN hvl (by omega) (hr (by omega))
  by_cases h0:(qcq m l k).1=0
  ·rw[if_pos h0]
   rw[h0] at hg
   generalize qcq m l k=R at*
   simp only[qas,mdC,qbs,grC] at hct hdn ho hg ⊢
   refine qah fn31 (by simp) ?_
   unfold i31
   simp only[argL]
   refine wR0 0 [2,3,4] cJ0 ?_
   refine wRn 100 [2,3,4,7] cJ0 ?_
   refine rC cJ0 ?_
   refine⟨_,hct,rE cJ0 ?_⟩
   refine wR0 200 [2,3,4,7,13] cJ0 ?_
   refine wF cJ0 ?_
   refine wRn 400 [2,3,4,18] cJ0 ?_
   refine rC cJ0 ?_
   refine⟨_,hdn,rE cJ0 ?_⟩
   refine wF cJ0 ?_
   refine wRn 600 [2,3,4,8] cJ0 ?_
   refine rU [] [(700,sG l)] cJ0 ?_
   refine⟨_,ho,rE cJ0 ?_⟩
   refine wRn 700 [3,4,8,9] cJ0 ?_
   refine rU [(700,sG l),(602,sGr l k)] [(700,sG R.2),(602,sGr R.2 (k+1:Nat))] cJ0 ?_
   refine⟨_,TC.full2 hg (by decide),rE cJ0 ?_⟩
   refine wR0 800 [3,4,8,9,26] cJ0 ?_
   refine wF cJ0 ?_
   refine wR0 1000 [4,5,6] cJ0 ?_
   refine wP ?_
   exact qd2 (qjx R.2 (k+1:Nat) rfl) (.same rfl) (.same rfl)
  ·rw[if_neg h0]
   generalize qcq m l k=R at*
   have hb:(R.1 != 0)=true:=by simp[h0]
   simp only[qas,mdC,qbs,grC] at hct hdn ho ho0 hg ⊢
   refine qah fn31 (by simp) ?_
   unfold i31
   simp only[argL]
   refine wR0 0 [2,3,4] cJ0 ?_
   refine wRn 100 [2,3,4,7] cJ0 ?_
   refine rC cJ0 ?_
   refine⟨_,hct,rE cJ0 ?_⟩
   refine wR0 200 [2,3,4,7,13] cJ0 ?_
   refine wF cJ0 ?_
   refine wRn 400 [2,3,4,18] cJ0 ?_
   refine rC cJ0 ?_
   refine⟨_,hdn,rE cJ0 ?_⟩
   refine wF cJ0 ?_
   refine wRn 600 [2,3,4,8] cJ0 ?_
   refine rU [] [(700,sG l)] cJ0 ?_
   refine⟨_,ho,rE cJ0 ?_⟩
   refine wRn 700 [3,4,8,9] cJ0 ?_
   refine rU [(700,sG l),(602,sGr l k)] [(700,sG R.2),(602,sGr R.2 (k+1:Nat))] cJ0 ?_
   refine⟨_,TC.full2 hg (by decide),rE cJ0 ?_⟩
   refine wR0 800 [3,4,8,9,26] cJ0 ?_
   refine wT @hb ?_
   refine wRn 900 [4,5,6] cJ0 ?_
   refine rU [] [(103,sG l)] cJ0 ?_
   refine⟨_,ho0,rE cJ0 ?_⟩
   refine wP ?_
   exact qd2 (qjx l k rfl) (.same rfl) (.same rfl)
end
section
open Go.RowKit
set_option maxHeartbeats 2000000
attribute [local simp] qbd qae qal qaJ
structure VecOk (N:Nat) (v:List Int):Prop where
 len:v.length=N
 ent:∀j,0≤v.getD j 0∧(v.getD j 0≤1048576∨v.getD j 0=1099511627776)
def qbl (N:Nat)(rs:List Rl):Prop:=∀r∈rs,(r.need.length=N∧r.give.length=N)∧∀j,(0≤r.need.getD j 0∧r.need.getD j 0≤1048576)∧(0≤r.give.getD j 0∧r.give.getD j 0≤1048576)
theorem qbl.room {N:Nat}{rs:List Rl}(h:qbl N rs){v:List Int}(hv:VecOk N v){r:Rl}(hr:r∈rs):RoomR r v:=
 ⟨by rw[(h r hr).1.1,hv.len],by rw[(h r hr).1.2,hv.len],fun j=>((h r hr).2 j).1,fun j=>((h r hr).2 j).2,hv.ent⟩
theorem qlI {r:Rl}{s:Int}{v:List Int}(h:qbL r s v=true):r.from_=s∧∀j,j<r.need.length→r.need.getD j 0≤v.getD j 0:=by
 simp only[qbL,Bool.and_eq_true,beq_iff_eq] at h
 refine⟨h.1,fun j hj=>?_⟩
 have:=(qbv _ _ _).1 h.2 j (Nat.zero_le _) (by omega)
 simp only[Bool.not_eq_true',decide_eq_false_iff_not] at this
 omega
theorem qky {r:Rl}{v:List Int}(h:aftO r v=true)(j:Nat)(hj:j<v.length):v.getD j 0=1099511627776∨aft1 r v j≤1048576:=by
 have:=(qbv _ _ _).1 h j (Nat.zero_le _) (by omega)
 simpa [Bool.or_eq_true] using this
theorem qbk {v:List Int}{j:Nat}(h:v.length≤j):v.getD j 0=0:=by simp[List.getD_eq_getElem?_getD,h]
theorem qej {N:Nat}{rs:List Rl}(h:qbl N rs){v:List Int}(hv:VecOk N v){r:Rl}(hr:r∈rs){s:Int}(hf:qbL r s v=true)(ho:aftO r v=true):VecOk N (aftR r v):=by
 have hl:(aftR r v).length=v.length:=qbq r v
 refine⟨by rw[hl,hv.len],fun j=>?_⟩
 by_cases hj:j<v.length
 ·rw[qbO r v j hj]
  have h1:=(qlI hf).2 j (by rw[(h r hr).1.1,←hv.len];exact hj)
  have h2:=(h r hr).2 j
  have h3:=hv.ent j
  have h4:=qky ho j hj
  rw[aft1] at h4 ⊢
  split at h4
  ·rename_i e;rw[if_pos e];omega
  ·rename_i e;rw[if_neg e];omega
 ·rw[qbk (by omega)];omega
theorem qg9 {N:Nat}{a v:List Int}(hv:VecOk N v):VecOk N (qcn a v):=by
 refine⟨by rw[qbo,hv.len],fun j=>?_⟩
 have h3:=hv.ent j
 by_cases hj:j<v.length
 ·rw[qcc a v j hj];split<;>omega
 ·rw[qbk (by rw[qbo];omega)];omega
theorem qe1 {N:Nat}(vs:List (List Int)):∀(f:Nat) (v:List Int),VecOk N v→VecOk N (qco vs f v)
 | 0,_,h=>h
 | f+1,v,h=>by
  rw[qco]
  split
  ·exact h
  ·exact qe1 vs f _ (qg9 h)
structure TreeG (N:Nat) (l:List Nn):Prop where
 ok:TreeOk N l
 vec:∀j,j<l.length→VecOk N (l.getD j default).vec
theorem qqN {l:List Nn}{x:Nn}{j:Nat}(hj:j<l.length+1):(j<l.length∧(l++[x]).getD j default=l.getD j default)∨(j=l.length∧(l++[x]).getD j default=x):=by
 by_cases h:j<l.length
 ·exact .inl ⟨h,by simp[List.getD_eq_getElem?_getD,List.getElem?_append_left h]⟩
 ·have:j=l.length:=by omega
  subst this
  exact .inr ⟨rfl,by simp[List.getD_eq_getElem?_getD]⟩
theorem TreeG.app {N:Nat}{l:List Nn}(h:TreeG N l)(x:Nn)(h1:-1≤x.par)(h2:x.par<l.length)(h3:l.length<256)(h4:VecOk N x.vec):TreeG N (l++[x]):=by
 refine⟨h.ok.app x h1 h2 h3 h4.len,fun j hj=>?_⟩
 rw[List.length_append,List.length_singleton] at hj
 rcases qqN (x:=x) hj with⟨hl,e⟩ | ⟨_,e⟩
 ·rw[e];exact h.vec j hl
 ·rw[e];exact h4
theorem qd3 {N:Nat}{rs0:List Rl}(h:qbl N rs0){at_:Nat}{s:Int}{v:List Int}(hv:VecOk N v):∀(rs:List Rl) (i:Nat) (l:List Nn),(∀r∈rs,r∈rs0)→TreeG N l→at_<l.length→TreeG N (qb0 at_ s v rs i l).2∧∃z,(qb0 at_ s v rs i l).2=l++z
 | [],_,l,_,ht,_=>⟨ht,[],by simp[qb0]⟩
 | r::rs,i,l,hrs,ht,hat=>by
  rw[qb0]
  split
  ·rename_i hf
   split
   ·rename_i hc
    have hw:=qe1 (upV l r.to_ at_) (bnd (aftR r v)+1) _ (qej h hv (hrs r (List.mem_cons_self ..)) hf hc.1)
    have ih:=qd3 h hv (s:=s) (at_:=at_) rs (i+1) (l++[⟨r.to_,qbe (upV l r.to_ at_) (aftR r v),at_,i⟩]) (fun x hx=>hrs x (List.mem_cons_of_mem _ hx)) (ht.app _ (by simp) (by simpa using hat) hc.2 hw) (by simp;omega)
    obtain⟨h1,z,h2⟩:=ih
    exact⟨h1,[⟨r.to_,qbe (upV l r.to_ at_) (aftR r v),at_,i⟩]++z,by rw[h2,List.append_assoc]⟩
   ·exact⟨ht,[],by simp⟩
  ·exact qd3 h hv rs (i+1) l (fun x hx=>hrs x (List.mem_cons_of_mem _ hx)) ht hat
theorem qm7 {N:Nat}{m:Md}(h:qbl N m.rules){l:List Nn}(ht:TreeG N l){k:Nat}(hk:k<l.length):TreeG N (qcq m l k).2∧∃z,(qcq m l k).2=l++z:=by
 rw[qcq]
 split
 ·exact⟨ht,[],by simp⟩
 ·exact qd3 h (ht.vec k hk) m.rules 0 l (fun r hr=>hr) ht hk
def runM (m:Md):Nat→List Nn→Nat→Nat→List Nn×Nat×Nat×Int
 | 0,l,k,n=>(l,k,n,0)
 | f+1,l,k,n=>if l.length≤k then (l,k,n,0) else if (qcq m l k).1=0 then runM m f (qcq m l k).2 (k+1) (n+1) else (l,k,n,(qcq m l k).1)
def runT (x:List Nn×Nat×Nat×Int):T:=.tup [qbs x.1 x.2.1,.int .i64 x.2.2.1,.int .i64 x.2.2.2]
theorem qtG (m:Md)(hm:m.fit)(hc:qbW m=0)(N k:Nat)(hN:0<N)(hvl:N≤1000000)(hr:qbl N m.rules)(l:List Nn)(ht:TreeG N l):TP Tryz.prog 30 [qbs l k,.ptr (mdC m)] (stepT (qp2 m l k)):=by
 have hst:=qtX m hm hc k N l ht.ok hN hvl (fun hk r hr'=>hr.room (ht.vec k hk) hr')
 generalize qp2 m l k=S at*
 obtain⟨l',k',mo,e⟩:=S
 simp only[stepT,qbs,grC,qas,mdC] at hst ⊢
 refine qah fn30 (by simp) ?_
 unfold i30
 simp only[argL]
 refine wR0 0 [1,2,3] cJ0 ?_
 refine wRn 100 [3,4,5] cJ0 ?_
 refine rC cJ0 ?_
 refine⟨_,hst,rE cJ0 ?_⟩
 refine wP ?_
 exact Frz.same (show T.fro (.tup [.agg [.list (qbj l'),.int .i64 k'],.bool mo,.int .i64 e])=true from by simp[T.fro,T.cl,clL])
abbrev rpE (m:Md)(b:Int)(i:Nat):List (Nat×T):=[(1,.int .i64 b),(2,.fn 30 [.ptr (mdC m)]),(3,.ref 0 2 0),(6,.ref 1 2 0),(9,.int .i64 i)]
abbrev rpH (l:List Nn)(k:Nat):List (Nat×Slot):=[(0,.live ⟨37,grC l k⟩),(1,.live ⟨37,[.nil,.int .i64 0]⟩)]
set_option maxHeartbeats 4000000 in
theorem qrz (m:Md)(hm:m.fit)(hc:qbW m=0)(N:Nat)(hN:0<N)(hvl:N≤1000000)(hr:qbl N m.rules)(b:Nat)(hb:b≤1000000)(R:List Nn×Nat×Nat×Int)(Q:IExit→(Nat→T)→Heap→Prop)
 (hQ0:R.2.2.2=0→Q (.exit 0) (ofL (rpE m b R.2.2.1++[(15,.bool false)])) (hpL (rpH R.1 R.2.1)))
 (hQ1:R.2.2.2=0→Q (.exit 0) (ofL [(1,.int .i64 b),(2,.fn 30 [.ptr (mdC m)]),(3,.ref 0 2 0),(6,.ref 1 2 0),(9,.int .i64 R.2.2.1),(10,.ref 307 2 0),(29,.bool true)]) (hpL (rpH R.1 R.2.1++[(307,.live ⟨37,grC R.1 R.2.1⟩)])))
 (hQ2:Q .ret (ofL [(6,.ref 1 2 0),(7,.int .i64 R.2.2.1),(8,.int .i64 R.2.2.2)]) (hpL [(0,.live ⟨37,grC R.1 R.2.1⟩),(1,.live ⟨37,grC R.1 R.2.1⟩),(307,.live ⟨37,grC R.1 R.2.1⟩)])) :
 ∀(f i k:Nat) (l:List Nn),i+f=b→TreeG N l→runM m f l k i=R→
 WL Tryz.prog 35 qhH (ofL (rpE m b i)) (hpL (rpH l k)) Q:=by
 simp only[rpE,rpH,grC,mdC,List.cons_append,List.nil_append] at hQ0 hQ1 hQ2 ⊢
 intro f
 induction f with
 | zero=>
  intro i k l hi ht hR
  rw[runM] at hR
  subst hR
  have hd:decide ((i:Int)<(b:Int))=false:=decide_eq_false (by omega)
  have fX:=@hd
  refine qaa qhH.eq_1 ?_
  refine wR0 200 [1,2,3,6,9,15] fX ?_
  refine wF @hd ?_
  refine wX ?_
  refine wN ?_
  exact hQ0 rfl
 | succ f ih=>
  intro i k l hi ht hR
  have hd:decide ((i:Int)<(b:Int))=true:=decide_eq_true (by omega)
  have hw:IntKind.wrap .i64 ((i:Int)+1)=((i+1:Nat):Int):=by rw[wrap64 (by omega) (by omega)];rfl
  have hs:=qtG m hm hc N k hN hvl hr l ht
  rw[runM] at hR
  rw[qp2] at hs
  by_cases hk:l.length≤k
  ·rw[if_pos hk] at hR hs
   subst hR
   simp only[stepT,qbs,grC,mdC] at hs
   have fX:=@hd
   refine qaa qhH.eq_1 ?_
   refine wR0 200 [1,2,3,6,9,15] fX ?_
   refine wT @hd ?_
   refine wRn 300 [1,2,3,6,9,10,11,12] fX ?_
   refine rCv fX ?_
   refine⟨_,hs,rE fX ?_⟩
   refine wR0 400 [1,2,3,6,9,10,11,12,24] fX ?_
   refine wF fX ?_
   refine wR0 600 [1,2,3,6,9,10,29] fX ?_
   refine wT fX ?_
   refine wX ?_
   refine wN ?_
   exact hQ1 rfl
  ·rw[if_neg hk] at hR hs
   by_cases h0:(qcq m l k).1=0
   ·rw[if_pos h0] at hR hs
    have hg:=qm7 hr ht (show k<l.length by omega)
    generalize qcq m l k=G at*
    have hQ':=ih (i+1) (k+1) G.2 (by omega) hg.1 hR
    simp only[stepT,qbs,grC,mdC] at hs
    have fX:=(cJ2 @hd @hw)
    refine qaa qhH.eq_1 ?_
    refine W_gc ?_
    refine wR0 200 [1,2,3,6,9,15] fX ?_
    refine wT @hd ?_
    refine wRn 300 [1,2,3,6,9,10,11,12] fX ?_
    refine rCv fX ?_
    refine⟨_,hs,rE fX ?_⟩
    refine wR0 400 [1,2,3,6,9,10,11,12,24] fX ?_
    refine wF fX ?_
    refine wR0 600 [1,2,3,6,9,10,29] fX ?_
    refine wF fX ?_
    refine wR0 700 [1,2,3,6,9] fX ?_
    refine wR0 800 [1,2,3,6,9] fX ?_
    refine wN ?_
    refine qaP [0,1] (by simp[inL]) (by simp[inL,T.cl,clL]) (by simp[qan,inL,Slot.cl,T.cl,clL]) ?_
    simpa [qan,inL] using hQ'
   ·rw[if_neg h0] at hR hs
    generalize qcq m l k=G at*
    have hb1:(G.1 != 0)=true:=by simp[h0]
    subst hR
    simp only[stepT,qbs,grC,mdC] at hs
    have fX:=@hd
    refine qaa qhH.eq_1 ?_
    refine wR0 200 [1,2,3,6,9,15] fX ?_
    refine wT @hd ?_
    refine wRn 300 [1,2,3,6,9,10,11,12] fX ?_
    refine rCv fX ?_
    refine⟨_,hs,rE fX ?_⟩
    refine wR0 400 [1,2,3,6,9,10,11,12,24] fX ?_
    refine wT @hb1 ?_
    refine wR0 500 [6,7,8] fX ?_
    refine wE ?_
    refine wN ?_
    exact hQ2
theorem qpr (m:Md)(hm:m.fit)(hc:qbW m=0)(N:Nat)(hN:0<N)(hvl:N≤1000000)(hr:qbl N m.rules)(b:Nat)(hb:b≤1000000)(l:List Nn)(k:Nat)(ht:TreeG N l):TP Tryz.prog 28 [qbs l k,.int .i64 b,.fn 30 [.ptr (mdC m)]] (runT (runM m b l k 0)):=by
 obtain⟨R,hR⟩:∃R,runM m b l k 0=R:=⟨_,rfl⟩
 have hL:=fun Q h0 h1 h2=>qrz m hm hc N hN hvl hr b hb R Q h0 h1 h2 b 0 k l (by omega) ht hR
 rw[hR]
 simp only[runT,qbs,grC,mdC,rpE,rpH,List.cons_append,List.nil_append] at hL ⊢
 refine qah fn28 (by simp) ?_
 unfold i28
 simp only[argL]
 refine wR0 0 [1,2,3,6] cJ0 ?_
 refine wR0 100 [1,2,3,6,9] cJ0 ?_
 refine wL ?_
 refine hL _ ?_ ?_ ?_
 ·intro h
  refine wN ?_
  refine wR0 900 [6,7,8] cJ0 ?_
  refine wP ?_
  (rw[h];exact Frz.same (show T.fro (.tup [.agg [.list (qbj R.1),.int .i64 R.2.1],.int .i64 R.2.2.1,.int .i64 0])=true from by simp[T.fro,T.cl,clL]))
 ·intro h
  refine wN ?_
  refine wR0 900 [6,7,8] cJ0 ?_
  refine wP ?_
  (rw[h];exact Frz.same (show T.fro (.tup [.agg [.list (qbj R.1),.int .i64 R.2.1],.int .i64 R.2.2.1,.int .i64 0])=true from by simp[T.fro,T.cl,clL]))
 ·skip
  refine wN ?_
  exact⟨by simp,_,rfl,by exact Frz.same (show T.fro (.tup [.agg [.list (qbj R.1),.int .i64 R.2.1],.int .i64 R.2.2.1,.int .i64 R.2.2.2])=true from by simp[T.fro,T.cl,clL])⟩
theorem qoH {H:Heap}{id:Nat}(l:List Nn)(next:Int)(hb:H id=sG l):Frz H (.agg (grT id l next)) (.agg [.list (qbj l),.int .i64 next]):=qjx l next hb
theorem qs0 {H:Heap}{id:Nat}{f:FuncId}(m:Md)(hb:H id=.live ⟨33,mdC m⟩):Frz H (.fn f [.ref id 10 0]) (.fn f [.ptr (mdC m)]):=by
 refine .fn rfl fun i hi=>?_
 have:i=0:=by simpa using hi
 subst this
 refine .ref hb rfl (Nat.le_refl 10) (qce m) fun k hk=>?_
 rw[Nat.zero_add]
 exact .same (qa5 (qmd _ m) k)
theorem qij (m:Md)(hm:m.fit)(hc:qbW m=0)(N:Nat)(hN:0<N)(hvl:N≤1000000)(hr:qbl N m.rules)(b:Nat)(hb:b≤1000000)(l:List Nn)(k:Nat)(ht:TreeG N l):TP Tryz.prog 10 [qas m,qbs l k,.int .i64 b] (runT (runM m b l k 0)):=by
 have hrp:=qpr m hm hc N hN hvl hr b hb l k ht
 have hll:=ht.ok.len
 have ho:=qss l k (by omega) (fun j hj=>by
  have:=ht.ok.vec j hj
  exact⟨by intro e;rw[e] at this;simp at this;omega,by omega⟩)
 generalize runM m b l k 0=R at*
 obtain⟨l',k',n',e⟩:=R
 have hfz:∀H:Heap,H 700=sG l→H 0=.live ⟨33,mdC m⟩→FrzL H [.agg (grT 700 l k),.int .i64 b,.fn 30 [.ref 0 10 0]] [.agg [.list (qbj l),.int .i64 k],.int .i64 b,.fn 30 [.ptr (mdC m)]]:=fun H h1 h2=>
  .cons (qoH l k h1) (.cons (.same rfl) (.cons (qs0 m h2) .nil))
 simp only[runT,qbs,grC,qas,mdC] at hrp ho hfz ⊢
 refine qah fn10 (by simp) ?_
 unfold i10
 simp only[argL]
 refine wR0 0 [2,3,4,6] cJ0 ?_
 refine wRn 100 [6,7,8] cJ0 ?_
 refine rU [] [(700,sG l)] cJ0 ?_
 refine⟨_,ho,rN cJ0 ?_⟩
 refine rG [(700,sG l),(0,.live ⟨_,_⟩)] cJ0 ?_
 refine⟨_,_,hrp,(by exact hfz _ rfl rfl),rE cJ0 ?_⟩
 refine wP ?_
 exact Frz.same (show T.fro (.tup [.agg [.list (qbj l'),.int .i64 k'],.int .i64 n',.int .i64 e])=true from by simp[T.fro,T.cl,clL])
end
section
open Go.RowKit Go.Sort Go.Shelf
theorem qjZ {a b:Int}:ordI a b=0↔a=b:=by unfold ordI;split<;>(try split)<;>omega
theorem ordI_neg' {a b:Int}:ordI a b<0↔a<b:=by unfold ordI;split<;>(try split)<;>omega
mutual
theorem qem:∀ {a b:V},cmpV a b=0→a=b
 | .mk a ks,.mk b ls,h=>by
  simp only[cmpV] at h
  by_cases h1:a=b
  ·by_cases h2:ks.length=ls.length
   ·rw[if_neg (by simp[h1]),if_neg (by simp[h2])] at h
    rw[h1,cmpL_eq h2 h]
   ·rw[if_neg (by simp[h1]),if_pos h2] at h
    have:=qjZ.1 h
    omega
  ·rw[if_pos h1] at h
   exact absurd (qjZ.1 h) h1
theorem cmpL_eq:∀ {ks ls:List V},ks.length=ls.length→cmpL ks ls=0→ks=ls
 | [],[],_,_=>rfl
 | [],_::_,h,_=>by simp at h
 | _::_,[],h,_=>by simp at h
 | k::ks,l::ls,h,h0=>by
  simp only[cmpL] at h0
  by_cases hk:cmpV k l=0
  ·rw[if_neg (by simp[hk])] at h0
   rw[qem hk,cmpL_eq (by simpa using h) h0]
  ·rw[if_pos hk] at h0
   exact absurd h0 hk
end
theorem qgu (a:V):cmpV a a=0:=by have:=qct a a;omega
theorem qob {k l:V}{ks ls:List V}:cmpL (k::ks) (l::ls)<0↔cmpV k l<0∨k=l∧cmpL ks ls<0:=by
 simp only[cmpL]
 by_cases h:cmpV k l=0
 ·have e:=qem h
  subst e
  rw[if_neg (by simp[h])]
  constructor
  ·exact fun hl=>.inr ⟨rfl,hl⟩
  ·rintro (hl | ⟨_,hl⟩)
   ·omega
   ·exact hl
 ·rw[if_pos h]
  constructor
  ·exact fun hl=>.inl hl
  ·rintro (hl | ⟨rfl,_⟩)
   ·exact hl
   ·exact absurd (qgu k) h
theorem qsO {a b:Int}{ks ls:List V}:cmpV (.mk a ks) (.mk b ls)<0↔a<b∨a=b∧(ks.length<ls.length∨ks.length=ls.length∧cmpL ks ls<0):=by
 simp only[cmpV]
 by_cases h1:a=b
 ·rw[if_neg (by simp[h1])]
  by_cases h2:ks.length=ls.length
  ·rw[if_neg (by simp[h2])]
   constructor
   ·exact fun h=>.inr ⟨h1,.inr ⟨h2,h⟩⟩
   ·rintro (h | ⟨_,h | ⟨_,h⟩⟩)
    ·omega
    ·omega
    ·exact h
  ·rw[if_pos h2,ordI_neg']
   constructor
   ·exact fun h=>.inr ⟨h1,.inl (by omega)⟩
   ·rintro (h | ⟨_,h | ⟨h,_⟩⟩)
    ·omega
    ·omega
    ·exact absurd h h2
 ·rw[if_pos h1,ordI_neg']
  constructor
  ·exact fun h=>.inl h
  ·rintro (h | ⟨h,_⟩)
   ·exact h
   ·exact absurd h h1
mutual
theorem qdX:∀ {a b c:V},cmpV a b<0→cmpV b c<0→cmpV a c<0
 | .mk a ks,.mk b ls,.mk c ms,h,h'=>by
  rw[qsO] at h h' ⊢
  rcases h with h | ⟨h,h1 | ⟨h1,h2⟩⟩
  ·rcases h' with h' | ⟨h',_⟩
   ·exact .inl (by omega)
   ·exact .inl (by omega)
  ·rcases h' with h' | ⟨h',h3 | ⟨h3,h4⟩⟩
   ·exact .inl (by omega)
   ·exact .inr ⟨by omega,.inl (by omega)⟩
   ·exact .inr ⟨by omega,.inl (by omega)⟩
  ·rcases h' with h' | ⟨h',h3 | ⟨h3,h4⟩⟩
   ·exact .inl (by omega)
   ·exact .inr ⟨by omega,.inl (by omega)⟩
   ·exact .inr ⟨by omega,.inr ⟨by omega,qhv h1 h3 h2 h4⟩⟩
theorem qhv:∀ {ks ls ms:List V},ks.length=ls.length→ls.length=ms.length→cmpL ks ls<0→cmpL ls ms<0→cmpL ks ms<0
 | [],_,_,_,_,h,_=>by simp[cmpL] at h
 | _::_,[],_,h,_,_,_=>by simp at h
 | _::_,_::_,[],_,h,_,_=>by simp at h
 | k::ks,l::ls,m::ms,e1,e2,h,h'=>by
  rw[qob] at h h' ⊢
  rcases h with h | ⟨rfl,h⟩
  ·rcases h' with h' | ⟨rfl,h'⟩
   ·exact .inl (qdX h h')
   ·exact .inl h
  ·rcases h' with h' | ⟨rfl,h'⟩
   ·exact .inl h'
   ·exact .inr ⟨rfl,qhv (by simpa using e1) (by simpa using e2) h h'⟩
end
theorem qeF {a b c:V}(h:¬cmpV b a<0)(h':¬cmpV c b<0):¬cmpV c a<0:=by
 have n1:=qct a b
 have n2:=qct b c
 have n3:=qct a c
 intro h3
 by_cases e1:cmpV a b=0
 ·have e:=qem e1
  subst e
  exact h' h3
 ·by_cases e2:cmpV b c=0
  ·have e:=qem e2
   subst e
   exact h h3
  ·have:=qdX (a:=a) (b:=b) (c:=c) (by omega) (by omega)
   omega
theorem qqv:SWO (ltOf cmpV):=by
 refine⟨fun x=>by simp[ltOf,qgu],fun x y z h h'=>?_,fun x y z h h'=>?_⟩
 ·simp only[ltOf,decide_eq_true_eq] at *;exact qdX h h'
 ·simp only[ltOf,decide_eq_false_iff_not] at *;exact qeF h' h
theorem qod {a b:V}(h:¬cmpV b a<0)(h':¬cmpV a b<0):a=b:=by
 have:=qct a b
 exact qem (by omega)
def Asc (l:List V):Prop:=l.Pairwise fun a b=>¬cmpV b a<0
theorem qhu:∀ {xs ys:List V},xs.Perm ys→Asc xs→Asc ys→xs=ys
 | [],ys,h,_,_=>by simpa using h.symm
 | x::xs,[],h,_,_=>by simp at h
 | x::xs,y::ys,h,hx,hy=>by
  have hx':=List.pairwise_cons.1 hx
  have hy':=List.pairwise_cons.1 hy
  have e:x=y:=by
   have m1:x∈y::ys:=h.mem_iff.1 (List.mem_cons_self ..)
   have m2:y∈x::xs:=h.mem_iff.2 (List.mem_cons_self ..)
   rcases List.mem_cons.1 m1 with e | m1
   ·exact e
   ·rcases List.mem_cons.1 m2 with e | m2
    ·exact e.symm
    ·exact qod (hx'.1 y m2) (hy'.1 x m1)
  subst e
  rw[qhu (List.perm_cons x |>.1 h) hx'.2 hy'.2]
theorem qgN (x:V):∀ys:List V,(insR x ys).Perm (x::ys)
 | []=>List.Perm.refl _
 | y::ys=>by
  unfold insR
  split
  ·exact ((qgN x ys).cons y).trans (List.Perm.swap x y ys)
  ·exact List.Perm.refl _
theorem qjJ (x:V):∀ys:List V,ys.Pairwise (fun a b=>¬cmpV a b<0)→(insR x ys).Pairwise fun a b=>¬cmpV a b<0
 | [],_=>by simp[insR]
 | y::ys,h=>by
  have h':=List.pairwise_cons.1 h
  unfold insR
  split
  ·rename_i hlt
   refine List.pairwise_cons.2 ⟨fun z hz=>?_,qjJ x ys h'.2⟩
   rcases List.mem_cons.1 ((qgN x ys).mem_iff.1 hz) with rfl | hz
   ·have:=qct z y;omega
   ·exact h'.1 z hz
  ·rename_i hge
   refine List.pairwise_cons.2 ⟨fun z hz=>?_,h⟩
   rcases List.mem_cons.1 hz with rfl | hz
   ·exact hge
   ·exact qeF (h'.1 z hz) hge
theorem qgR:∀(l acc:List V),(qjL acc l).Perm (l++acc)
 | [],acc=>List.Perm.refl _
 | x::l,acc=>by
  rw[qgP]
  refine (qgR l (insR x acc)).trans ?_
  refine ((qgN x acc).append_left l).trans ?_
  exact List.perm_middle
theorem qgQ:∀(l acc:List V),acc.Pairwise (fun a b=>¬cmpV a b<0)→(qjL acc l).Pairwise fun a b=>¬cmpV a b<0
 | [],acc,h=>h
 | x::l,acc,h=>by
  rw[qgP]
  exact qgQ l _ (qjJ x acc h)
def qnL (l:List V):List V:=(qjL [] l).reverse
theorem qeb (l:List V):(qnL l).Perm l:=(List.reverse_perm _).trans (by simpa using qgR l [])
theorem qkm (l:List V):Asc (qnL l):=List.pairwise_reverse.2 (qgQ l [] List.Pairwise.nil)
theorem qrZ {l zs:List V}(h:zs.Perm l)(hz:Asc zs):zs=qnL l:=qhu (h.trans (qeb l).symm) hz (qkm l)
end
section
def SAsc (l:List V):Prop:=l.Pairwise fun a b=>cmpV a b<0
def ddp (p:V):List V→List V
 | []=>[]
 | x::l=>if cmpV x p=0 then ddp x l else x::ddp x l
def qeH:List V→List V
 | []=>[]
 | x::l=>x::ddp x l
theorem qop:∀(l:List V) (p z:V),z∈p::ddp p l↔z∈p::l
 | [],p,z=>Iff.rfl
 | x::l,p,z=>by
  have ih:=qop l x z
  simp only[ddp]
  by_cases h:cmpV x p=0
  ·rw[if_pos h]
   have e:=qem h
   subst e
   rw[ih]
   simp
  ·rw[if_neg h]
   simp only[List.mem_cons] at ih ⊢
   rw[ih]
theorem qlE:∀(l:List V) (p:V),Asc (p::l)→SAsc (p::ddp p l)
 | [],p,_=>List.pairwise_singleton ..
 | x::l,p,h=>by
  have h':=List.pairwise_cons.1 h
  have ih:=qlE l x h'.2
  simp only[ddp]
  by_cases he:cmpV x p=0
  ·rw[if_pos he]
   have e:=qem he
   subst e
   exact ih
  ·rw[if_neg he]
   have hlt:cmpV p x<0:=by
    have a1:=h'.1 x (List.mem_cons_self ..)
    have:=qct x p
    omega
   refine List.pairwise_cons.2 ⟨fun z hz=>?_,ih⟩
   rcases List.mem_cons.1 hz with rfl | hz
   ·exact hlt
   ·exact qdX hlt ((List.pairwise_cons.1 ih).1 z hz)
theorem qjf (l:List V)(z:V):z∈qeH l↔z∈l:=by
 cases l with
 | nil=>exact Iff.rfl
 | cons x l=>exact qop l x z
theorem qh7 {l:List V}(h:Asc l):SAsc (qeH l):=by
 cases l with
 | nil=>exact List.Pairwise.nil
 | cons x l=>exact qlE l x h
end
end Go.Proofs.YtoeeppojakbciaaGreat
