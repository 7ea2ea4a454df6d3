/- Contracts of functions of the program, for all arguments that they name. -/
import Derived.Test.YtpplncjaihgimaaGreatK08
import Derived.Test.YtpplncjaihgimaaGreatK19
import Derived.Test.YtpplncjaihgimaaGreatK23
namespace Go.Proofs.YtpplncjaihgimaaGreat
set_option linter.unusedVariables false
section
open Go.RowKit
set_option maxHeartbeats 2000000
inductive All2 {α β:Type} (R:α→β→Prop):List α→List β→Prop
 | nil:All2 R [] []
 | cons {a:α} {b:β} {l:List α} {m:List β}:R a b→All2 R l m→All2 R (a::l) (b::m)
def lo0 (t:Ty)(v:V):Prop:=(t.k=1→∃x,v=.mk x []∧0≤x∧x<4)∧(t.k=2→∃x,v=.mk x []∧0≤x∧x<t.s)∧(t.k=4∨t.k=5∨t.k=7→v=.mk 0 [])
def lo1 (t:Ty)(v:V):Prop:=lo0 t v∧(t.k=3→∃vs,v=.mk 0 vs∧All2 lo0 t.ps vs)
theorem qmy {s d:Int}{rs:List Int}{ps:List Ty}(h:qar (.mk 2 s rs ps) d=true):1≤s∧s≤16:=by
 rw[qar] at h
 split at h
 ·cases h
 ·split at h
  ·cases h
  ·simp at h;omega
theorem qlE {s d:Int}{rs:List Int}{ps:List Ty}(h:qar (.mk 7 s rs ps) d=true):1≤s∧s≤6:=by
 rw[qar] at h
 split at h
 ·cases h
 ·split at h
  ·cases h
  ·simp at h;omega
theorem qlC {k s d:Int}{rs:List Int}{ps:List Ty}(h:qar (.mk k s rs ps) d=true)(k1:k≠1)(k2:k≠2)(k6:k≠6)(k7:k≠7)(k3:k≠3):(k=4∨k=5)∧∃p,ps=[p]∧qar p (d - 1)=true:=by
 rw[qar] at h
 split at h
 ·cases h
 ·split at h
  ·cases h
  ·simp only[k2,k6,if_false,or_self] at h
   split at h
   ·rename_i hk
    simp at h
    obtain⟨⟨_,h1⟩,h2⟩:=h
    match ps,h1,h2 with
    | [p],_,h2=>exact⟨hk,p,rfl,by simpa [qa1] using h2⟩
    | [],h1,_=>simp at h1
    | _::_::_,h1,_=>simp at h1;omega
   ·cases h
theorem qsK (k s:Int)(rs:List Int)(ps:List Ty)(most:Nat)(hm:most≤3)(hl:ps.length≤8)
 (hrec:∀p∈ps,∀d:Dk,d.ok→∃(v:V) (d':Dk),v.fit∧(most=0→lo1 p v)∧d'.ok∧TC Tryz.prog 60 [dkR,qal p,.int .i64 most] (hpL [(99999,dkB d)]) (encV v) (hpL [(99999,dkB d')])) :
 ∀(rest pre:List Ty) (i:Nat) (done:List V) (d:Dk),ps=pre++rest→pre.length=i→done.length=i→d.ok→
 ∃(ks:List V) (d':Dk),(∀k∈ks,k.fit)∧ks.length=rest.length∧(most=0→All2 lo0 rest ks)∧d'.ok∧∀Q:IExit→(Nat→T)→Heap→Prop,
  (∀i:Int,Q (.exit 1) (ofL [(0,dkR),(2,.int .i64 most),(4,.ref 0 4 0),(6,.ref 1 2 0),(7,.ref 1000 2 0),(8,.int .i64 i),(49,.bool false)]) (hpL ([(99999,dkB d'),(0,.live ⟨50,[.int .i64 k,.int .i64 s,.list (qab rs),.list (qak ps)]⟩),(1,.live ⟨25,[.int .i64 0,.nil]⟩),(1000,.live ⟨25,[.int .i64 0,rowT 1411 (done++ks)]⟩)]++rowH 1411 25 (done++ks))))→
  WL Tryz.prog 89 qkA (ofL [(0,dkR),(2,.int .i64 most),(4,.ref 0 4 0),(6,.ref 1 2 0),(7,.ref 1000 2 0),(8,.int .i64 i)]) (hpL ([(99999,dkB d),(0,.live ⟨50,[.int .i64 k,.int .i64 s,.list (qab rs),.list (qak ps)]⟩),(1,.live ⟨25,[.int .i64 0,.nil]⟩),(1000,.live ⟨25,[.int .i64 0,rowT 1411 done]⟩)]++rowH 1411 25 done)) Q:=by
 intro rest
 induction rest with
 | nil=>
  intro pre i done d he hi hdn hd
  refine⟨[],d,(fun y hy=>absurd hy (List.not_mem_nil)),rfl,fun _=>.nil,hd,fun Q hQ=>?_⟩
  have hb:decide ((i:Int)<((qak ps).length:Int))=false:=by simp[qap,he,hi]
  rw[List.append_nil] at hQ
  simp only[List.cons_append,List.nil_append] at hQ ⊢
  have fX:=@hb
  refine qaa qkA.eq_1 ?_
  refine wR0 1300 [0,2,4,6,7,8,49] fX ?_
  refine wF @hb ?_
  refine wX ?_
  refine wN ?_
  exact hQ _
 | cons p rest ih=>
  intro pre i done d he hi hdn hd
  obtain⟨⟨a,bs⟩,d1,hvf,hlo,hok,hls⟩:=hrec p (by rw[he];simp) d hd
  obtain⟨ks,d',h1,h2,h3,h4,hW⟩:=ih (pre++[p]) (i+1) (done++[.mk a bs]) d1 (by simpa using he) (by simp[hi]) (by simp[hdn]) hok
  refine⟨.mk a bs::ks,d',fun y hy=>?_,by simp[h2],fun h0=>.cons (hlo h0).1 (h3 h0),h4,fun Q hQ=>?_⟩
  ·rcases List.mem_cons.1 hy with rfl | hy
   ·exact hvf
   ·exact h1 y hy
  have hlen:ps.length=i+1+rest.length:=by rw[he];simp[hi];omega
  have hlt:(i:Int)<((qak ps).length:Int):=by rw[qap];omega
  have hb:decide ((i:Int)<((qak ps).length:Int))=true:=decide_eq_true hlt
  have hw:IntKind.wrap .i64 ((i:Int)+1)=((i+1:Nat):Int):=by rw[wrap64 (by omega) (by omega)];rfl
  have hg:(qak ps).getD (i:Int).toNat .undef=qal p:=by rw[Int.toNat_natCast,he,←hi];exact qcW _ _ _
  rcases p with⟨pk,pz,prs,pps⟩
  simp only[qal] at hg hls
  simp only[encV] at hls
  have hQ':=hW Q (by simpa using hQ)
  cases done with
  | nil=>
   simp only[rowT,rowH,List.append_nil]
   have fX:=(cJ4 @hb @hw @hg @qbp)
   refine qaa qkA.eq_1 ?_
   refine W_gc ?_
   refine wR0 1300 [0,2,4,6,7,8,49] fX ?_
   refine wT fX ?_
   refine wRn 1400 [0,2,4,6,7,8] fX ?_
   refine rU [(99999,dkB d)] [(99999,dkB d1)] fX ?_
   refine⟨_,hls.full1,rE fX ?_⟩
   refine wR0 1500 [0,2,4,6,7,8] fX ?_
   refine wN ?_
   refine qaC [99999,0,1,1000,1411] (by simp[inL]) (by simp[inL,T.cl]) (by simp[qam,inL,Slot.cl,T.cl,clL,qae,qai,qaG]) ?_
   simpa [qam,inL,rowT,rowH,qaq,V.n,V.kids] using hQ'
  | cons z l=>
   have hlb:l.length+1≤1000000:=by simp at hdn;omega
   simp only[rowT,rowH,List.cons_append,List.nil_append]
   have fX:=(cJ5 @hb @hw @hg @qbp @qaz)
   refine qaa qkA.eq_1 ?_
   refine W_gc ?_
   refine wR0 1300 [0,2,4,6,7,8,49] fX ?_
   refine wT fX ?_
   refine wRn 1400 [0,2,4,6,7,8] fX ?_
   refine rU [(99999,dkB d)] [(99999,dkB d1)] fX ?_
   refine⟨_,hls.full1,rE fX ?_⟩
   refine wR0 1500 [0,2,4,6,7,8] fX ?_
   refine wN ?_
   refine qaC [99999,0,1,1000,1411] (by simp[inL]) (by simp[inL,T.cl]) (by simp[qam,inL,Slot.cl,T.cl,clL,qae,qai,qaG,qay,qao]) ?_
   have hs:qaq (z::(l++[V.mk a bs]))=qaq (z::l)++[.int .i64 a,.list (qac bs)]:=qbk (z::l) (.mk a bs)
   have hm2:(l.length+1+1)*2=(l.length+1)*2+2:=(by omega)
   simp only[List.cons_append,List.nil_append,rowT,rowH,hs,List.length_append,List.length_cons,List.length_nil,Nat.zero_add,hm2] at hQ'
   simpa [qam,inL] using hQ'
theorem qsL (k s:Int)(rs:List Int)(p:Ty)(most:Nat)(hm:most≤3)
 (hrec:∀d:Dk,d.ok→∃(v:V) (d':Dk),v.fit∧d'.ok∧TC Tryz.prog 60 [dkR,qal p,.int .i64 ((most - 1:Nat):Int)] (hpL [(99999,dkB d)]) (encV v) (hpL [(99999,dkB d')])) :
 ∀(n:Nat) (done:List V) (d:Dk),n+done.length≤1000→d.ok→
 ∃(ks:List V) (d':Dk),(∀k∈ks,k.fit)∧ks.length=n∧d'.ok∧∀Q:IExit→(Nat→T)→Heap→Prop,
  (∀i:Int,Q (.exit 3) (ofL [(0,dkR),(2,.int .i64 most),(4,.ref 0 4 0),(6,.ref 1 2 0),(7,.ref 1000 2 0),(9,.int .i64 i),(71,.bool false)]) (hpL ([(99999,dkB d'),(0,.live ⟨50,[.int .i64 k,.int .i64 s,.list (qab rs),.list (qak [p])]⟩),(1,.live ⟨25,[.int .i64 0,.nil]⟩),(1000,.live ⟨25,[.int .i64 0,rowT 1912 (done++ks)]⟩)]++rowH 1912 25 (done++ks))))→
  WL Tryz.prog 89 qkB (ofL [(0,dkR),(2,.int .i64 most),(4,.ref 0 4 0),(6,.ref 1 2 0),(7,.ref 1000 2 0),(9,.int .i64 n)]) (hpL ([(99999,dkB d),(0,.live ⟨50,[.int .i64 k,.int .i64 s,.list (qab rs),.list (qak [p])]⟩),(1,.live ⟨25,[.int .i64 0,.nil]⟩),(1000,.live ⟨25,[.int .i64 0,rowT 1912 done]⟩)]++rowH 1912 25 done)) Q:=by
 intro n
 induction n with
 | zero=>
  intro done d hdn hd
  refine⟨[],d,(fun y hy=>absurd hy (List.not_mem_nil)),rfl,hd,fun Q hQ=>?_⟩
  have hb:decide (((0:Nat):Int) > 0)=false:=rfl
  rw[List.append_nil] at hQ
  simp only[List.cons_append,List.nil_append] at hQ ⊢
  have fX:=@hb
  refine qaa qkB.eq_1 ?_
  refine wR0 1800 [0,2,4,6,7,9,71] fX ?_
  refine wF @hb ?_
  refine wX ?_
  refine wN ?_
  exact hQ _
 | succ n ih=>
  intro done d hdn hd
  obtain⟨⟨a,bs⟩,d1,hvf,hok,hls⟩:=hrec d hd
  obtain⟨ks,d',h1,h2,h4,hW⟩:=ih (done++[.mk a bs]) d1 (by simp;omega) hok
  refine⟨.mk a bs::ks,d',fun y hy=>?_,by simp[h2],h4,fun Q hQ=>?_⟩
  ·rcases List.mem_cons.1 hy with rfl | hy
   ·exact hvf
   ·exact h1 y hy
  have hb:decide (((n+1:Nat):Int) > 0)=true:=decide_eq_true (by omega)
  have hw:IntKind.wrap .i64 (((n+1:Nat):Int) - 1)=(n:Int):=by rw[wrap64 (by omega) (by omega)];omega
  have hw1:IntKind.wrap .i64 ((most:Int) - 1)=(most:Int) - 1:=wrap64 (by omega) (by omega)
  have hmx:(if (most:Int) - 1 > 0 then (most:Int) - 1 else 0)=((most - 1:Nat):Int):=by split<;>omega
  have hlt:(0:Int)<((qak [p]).length:Int):=by simp[qap]
  have hg:(qak [p]).getD (0:Int).toNat .undef=qal p:=rfl
  rcases p with⟨pk,pz,prs,pps⟩
  simp only[qal] at hg hls
  simp only[encV] at hls
  have hQ':=hW Q (by simpa using hQ)
  cases done with
  | nil=>
   simp only[rowT,rowH,List.append_nil]
   have fX:=(cJ6 @hb @hw @hw1 @hmx @hg @qbp)
   refine qaa qkB.eq_1 ?_
   refine W_gc ?_
   refine wR0 1800 [0,2,4,6,7,9,71] fX ?_
   refine wT fX ?_
   refine wRn 1900 [0,2,4,6,7,9] fX ?_
   refine rU [(99999,dkB d)] [(99999,dkB d1)] fX ?_
   refine⟨_,hls.full1,rE fX ?_⟩
   refine wR0 2000 [0,2,4,6,7,9] fX ?_
   refine wN ?_
   refine qaC [99999,0,1,1000,1912] (by simp[inL]) (by simp[inL,T.cl]) (by simp[qam,inL,Slot.cl,T.cl,clL,qae,qai,qaG]) ?_
   simpa [qam,inL,rowT,rowH,qaq,V.n,V.kids] using hQ'
  | cons z l=>
   have hlb:l.length+1≤1000000:=by simp at hdn;omega
   simp only[rowT,rowH,List.cons_append,List.nil_append]
   have fX:=(cJ7 @hb @hw @hw1 @hmx @hg @qbp @qaz)
   refine qaa qkB.eq_1 ?_
   refine W_gc ?_
   refine wR0 1800 [0,2,4,6,7,9,71] fX ?_
   refine wT fX ?_
   refine wRn 1900 [0,2,4,6,7,9] fX ?_
   refine rU [(99999,dkB d)] [(99999,dkB d1)] fX ?_
   refine⟨_,hls.full1,rE fX ?_⟩
   refine wR0 2000 [0,2,4,6,7,9] fX ?_
   refine wN ?_
   refine qaC [99999,0,1,1000,1912] (by simp[inL]) (by simp[inL,T.cl]) (by simp[qam,inL,Slot.cl,T.cl,clL,qae,qai,qaG,qay,qao]) ?_
   have hs:qaq (z::(l++[V.mk a bs]))=qaq (z::l)++[.int .i64 a,.list (qac bs)]:=qbk (z::l) (.mk a bs)
   have hm2:(l.length+1+1)*2=(l.length+1)*2+2:=(by omega)
   simp only[List.cons_append,List.nil_append,rowT,rowH,hs,List.length_append,List.length_cons,List.length_nil,Nat.zero_add,hm2] at hQ'
   simpa [qam,inL] using hQ'
theorem qqC {k s:Int}{rs:List Int}{ps:List Ty}{x:Int}(h0:0≤x)(h1:k=1→x<4)(h2:k=2→x<s)(hk:k=1∨k=2):lo1 (.mk k s rs ps) (.mk x []):=by
 refine⟨⟨fun e=>⟨x,rfl,h0,h1 e⟩,fun e=>⟨x,rfl,h0,h2 e⟩,fun e=>?_⟩,fun e=>?_⟩
 ·simp only[Ty.k] at e;omega
 ·simp only[Ty.k] at e;omega
theorem qeX:∀(t:Ty) (dep:Int) (most:Nat) (d:Dk),t.fit→qar t dep=true→most≤3→d.ok→
 ∃(v:V) (d':Dk),v.fit∧(most=0→lo1 t v)∧d'.ok∧TC Tryz.prog 60 [dkR,qal t,.int .i64 most] (hpL [(99999,dkB d)]) (encV v) (hpL [(99999,dkB d')])
 | .mk k s rs ps,dep,most,d,ht,hv,hm,hd=>by
  have hf:=Ty.fit_all ht
  by_cases k1:k=1
  ·subst k1
   obtain⟨x,d',hx,hok,hnx⟩:=qbC d 4 hd
   refine⟨.mk x [],d',by simp[V.fit,fitL],fun _=>qqC hx.1 (fun _=>hx.2.2 (by omega)) (fun h=>by omega) (.inl rfl),hok,?_⟩
   refine qcy fn60 (by simp) ?_
   unfold i60
   simp only[argL,encV,qal]
   refine wR0 0 [0,2,4,6] cJ0 ?_
   refine wR0 100 [0,2,4,6,11] cJ0 ?_
   refine wR0 200 [0,2,4,6,11,12] cJ0 ?_
   refine wT cJ0 ?_
   refine wRn 300 [6] cJ0 ?_
   refine rU [(99999,dkB d)] [(99999,dkB d')] cJ0 ?_
   refine⟨_,hnx.full1,rE cJ0 ?_⟩
   refine wE ?_
   refine wN ?_
   exact⟨by simp,_,_,_,rfl,rfl,.aggL (.cons (.same rfl) (.cons .nil .nil)) rfl,.keep rfl (qaT _) (.dead rfl (fun h=>by cases h) (.dead rfl (fun h=>by cases h) .nil)),rfl⟩
  have b1:(k==1)=false:=by simpa using k1
  by_cases k2:k=2
  ·subst k2
   have hs:=qmy hv
   obtain⟨x,d',hx,hok,hnx⟩:=qbC d s hd
   refine⟨.mk x [],d',by simp[V.fit,fitL],fun _=>qqC hx.1 (fun h=>by omega) (fun _=>hx.2.2 (by omega)) (.inr rfl),hok,?_⟩
   have fX:=@b1
   refine qcy fn60 (by simp) ?_
   unfold i60
   simp only[argL,encV,qal]
   refine wR0 0 [0,2,4,6] fX ?_
   refine wR0 100 [0,2,4,6,11] fX ?_
   refine wR0 200 [0,2,4,6,11,12] fX ?_
   refine wF fX ?_
   refine wR0 400 [0,2,4,6,11,17] fX ?_
   refine wT fX ?_
   refine wRn 500 [6] fX ?_
   refine rU [(99999,dkB d)] [(99999,dkB d')] fX ?_
   refine⟨_,hnx.full1,rE fX ?_⟩
   refine wE ?_
   refine wN ?_
   exact⟨by simp,_,_,_,rfl,rfl,.aggL (.cons (.same rfl) (.cons .nil .nil)) rfl,.keep rfl (qaT _) (.dead rfl (fun h=>by cases h) (.dead rfl (fun h=>by cases h) .nil)),rfl⟩
  have b2:(k==2)=false:=by simpa using k2
  by_cases k6:k=6
  ·subst k6
   obtain⟨x,d1,hx,hok,hnx⟩:=qbC d 4 hd
   have hx4:=hx.2.2 (by omega)
   obtain⟨m,rfl⟩:=Int.eq_ofNat_of_zero_le hx.1
   obtain⟨⟨a,bs⟩,d',htf,hok2,htr⟩:=qvn s (1+m) d1 (by omega) hok
   have hva:=qnv (.mk a bs) htf
   simp only[encV] at htr hva
   have hw:IntKind.wrap .i64 (1+(m:Int))=((1+m:Nat):Int):=by rw[wrap64 (by omega) (by omega)];omega
   refine⟨.mk a bs,d',htf,fun _=>⟨⟨fun h=>?_,fun h=>?_,fun h=>?_⟩,fun h=>?_⟩,hok2,?_⟩
   ·simp only[Ty.k] at h;omega
   ·simp only[Ty.k] at h;omega
   ·simp only[Ty.k] at h;omega
   ·simp only[Ty.k] at h;omega
   have fX:=(cJ3 @b1 @b2 @hw)
   refine qcy fn60 (by simp) ?_
   unfold i60
   simp only[argL,encV,qal]
   refine wR0 0 [0,2,4,6] fX ?_
   refine wR0 100 [0,2,4,6,11] fX ?_
   refine wR0 200 [0,2,4,6,11,12] fX ?_
   refine wF fX ?_
   refine wR0 400 [0,2,4,6,11,17] fX ?_
   refine wF fX ?_
   refine wR0 600 [0,2,4,6,11,24] fX ?_
   refine wT fX ?_
   refine wRn 700 [6] fX ?_
   refine rU [(99999,dkB d)] [(99999,dkB d1)] fX ?_
   refine⟨_,hnx.full1,rN fX ?_⟩
   refine rU [(99999,dkB d1)] [(99999,dkB d')] fX ?_
   refine⟨_,htr.full1,rN fX ?_⟩
   refine rC fX ?_
   refine⟨_,hva,rE fX ?_⟩
   refine wE ?_
   refine wN ?_
   exact⟨by simp,_,_,_,rfl,rfl,.same (by simp[mkEl,esz,T.cl,clL,qai]),.keep rfl (qaT _) (.dead rfl (fun h=>by cases h) (.dead rfl (fun h=>by cases h) .nil)),rfl⟩
  have b6:(k==6)=false:=by simpa using k6
  by_cases k7:k=7
  ·subst k7
   have hs:=qlE hv
   obtain⟨ys,d',h1,h2,hok,hwd⟩:=qe7 d s most (by omega) (by omega) hd
   have hva:=qtK ys (by omega)
   simp only[wordV,encV] at hva
   have hkl:(qaP ys).length=ys.length:=by simp[qaP]
   refine⟨.mk 0 (qaP ys),d',?_,fun h0=>⟨⟨fun h=>?_,fun h=>?_,fun h=>?_⟩,fun h=>?_⟩,hok,?_⟩
   ·simp only[V.fit]
    refine⟨by rw[hkl];omega,qdo fun v hv=>?_⟩
    obtain⟨w,_,rfl⟩:=List.mem_map.1 hv
    simp[V.fit,fitL]
   ·simp only[Ty.k] at h;omega
   ·simp only[Ty.k] at h;omega
   ·obtain rfl:ys=[]:=List.eq_nil_of_length_eq_zero (by omega)
    rfl
   ·simp only[Ty.k] at h;omega
   have fX:=(cJ3 @b1 @b2 @b6)
   refine qcy fn60 (by simp) ?_
   unfold i60
   simp only[argL,encV,qal]
   refine wR0 0 [0,2,4,6] fX ?_
   refine wR0 100 [0,2,4,6,11] fX ?_
   refine wR0 200 [0,2,4,6,11,12] fX ?_
   refine wF fX ?_
   refine wR0 400 [0,2,4,6,11,17] fX ?_
   refine wF fX ?_
   refine wR0 600 [0,2,4,6,11,24] fX ?_
   refine wF fX ?_
   refine wR0 800 [0,2,4,6,34] fX ?_
   refine wT fX ?_
   refine wRn 900 [6] fX ?_
   refine rU [(99999,dkB d)] [(99999,dkB d')] fX ?_
   refine⟨_,hwd.full1,rN fX ?_⟩
   refine rC fX ?_
   refine⟨_,hva,rE fX ?_⟩
   refine wE ?_
   refine wN ?_
   exact⟨by simp,_,_,_,rfl,rfl,.same (by simp[mkEl,esz,T.cl,clL,qai]),.keep rfl (qaT _) (.dead rfl (fun h=>by cases h) (.dead rfl (fun h=>by cases h) .nil)),rfl⟩
  have b7:(k==7)=false:=by simpa using k7
  by_cases k3:k=3
  ·subst k3
   obtain⟨hvp,hlp⟩:=qdX hv
   obtain⟨ks,d',h1,h2,h3,hok,hW⟩:=qsK 3 s rs ps most hm hlp (fun p hp d hd=>qeX p (dep - 1) most d (hf.2.2 p hp) (qbV hvp p hp) hm hd) ps [] 0 [] d rfl rfl rfl hd
   refine⟨.mk 0 ks,d',?_,fun h0=>⟨⟨fun h=>?_,fun h=>?_,fun h=>?_⟩,fun h=>⟨ks,rfl,h3 h0⟩⟩,hok,?_⟩
   ·simp only[V.fit];exact⟨by omega,qdo h1⟩
   ·simp only[Ty.k] at h;omega
   ·simp only[Ty.k] at h;omega
   ·simp only[Ty.k] at h;omega
   have fX:=(cJ4 @b1 @b2 @b6 @b7)
   refine qcy fn60 (by simp) ?_
   unfold i60
   simp only[argL,encV,qal]
   refine wR0 0 [0,2,4,6] fX ?_
   refine wR0 100 [0,2,4,6,11] fX ?_
   refine wR0 200 [0,2,4,6,11,12] fX ?_
   refine wF fX ?_
   refine wR0 400 [0,2,4,6,11,17] fX ?_
   refine wF fX ?_
   refine wR0 600 [0,2,4,6,11,24] fX ?_
   refine wF fX ?_
   refine wR0 800 [0,2,4,6,34] fX ?_
   refine wF fX ?_
   refine wR0 1000 [0,2,4,6,7] fX ?_
   refine wR0 1100 [0,2,4,6,7,44] fX ?_
   refine wT fX ?_
   refine wR0 1200 [0,2,4,6,7,8] fX ?_
   refine wL ?_
   refine hW _ ?_
   ·intro i
    refine wN ?_
    refine wN ?_
    rcases ks with _ | ⟨y,l⟩
    ·skip
     refine wN ?_
     simp only[rowT,rowH,List.append_nil]
     refine wR0 1600 [6] fX ?_
     refine wE ?_
     refine wN ?_
     first | exact⟨by simp,_,_,_,rfl,rfl,.aggL (.cons (.same rfl) (.cons .nil .nil)) rfl,.keep rfl (qaT _) (.dead rfl (fun h=>by cases h) (.dead rfl (fun h=>by cases h) (.dead rfl (fun h=>by cases h) .nil))),rfl⟩ | exact⟨by simp,_,_,_,rfl,rfl,.aggL (.cons (.same rfl) (.cons (qiz (y::l) rfl rfl rfl rfl) .nil)) rfl,.keep rfl (qaT _) (.dead rfl (fun h=>by cases h) (.dead rfl (fun h=>by cases h) (.dead rfl (fun h=>by cases h) (.dead rfl (fun h=>by cases h) .nil)))),rfl⟩
    ·skip
     refine wN ?_
     simp only[rowT,rowH,List.nil_append,List.cons_append]
     refine wR0 1600 [6] fX ?_
     refine wE ?_
     refine wN ?_
     first | exact⟨by simp,_,_,_,rfl,rfl,.aggL (.cons (.same rfl) (.cons .nil .nil)) rfl,.keep rfl (qaT _) (.dead rfl (fun h=>by cases h) (.dead rfl (fun h=>by cases h) (.dead rfl (fun h=>by cases h) .nil))),rfl⟩ | exact⟨by simp,_,_,_,rfl,rfl,.aggL (.cons (.same rfl) (.cons (qiz (y::l) rfl rfl rfl rfl) .nil)) rfl,.keep rfl (qaT _) (.dead rfl (fun h=>by cases h) (.dead rfl (fun h=>by cases h) (.dead rfl (fun h=>by cases h) (.dead rfl (fun h=>by cases h) .nil)))),rfl⟩
  have b3:(k==3)=false:=by simpa using k3
  obtain⟨k45,p,hps,hvp⟩:=qlC hv k1 k2 k6 k7 k3
  have hrec:=fun (d:Dk) (hd:d.ok)=>qeX p (dep - 1) (most - 1) d (hf.2.2 p (by rw[hps];simp)) hvp (by omega) hd
  subst hps
  obtain⟨x,d1,hx,hok1,hnx⟩:=qbC d ((most:Int)+1) hd
  have hxm:=hx.2.2 (by omega)
  obtain⟨n,rfl⟩:=Int.eq_ofNat_of_zero_le hx.1
  obtain⟨ks,d',h1,h2,hok,hW⟩:=qsL k s rs p most hm (fun d hd=>by
   obtain⟨v,d',a1,a2,a3,a4⟩:=hrec d hd
   exact⟨v,d',a1,a3,a4⟩) n [] d1 (by simp;omega) hok1
  have hw:IntKind.wrap .i64 ((most:Int)+1)=(most:Int)+1:=wrap64 (by omega) (by omega)
  refine⟨.mk 0 ks,d',?_,fun h0=>⟨⟨fun h=>?_,fun h=>?_,fun h=>?_⟩,fun h=>?_⟩,hok,?_⟩
  ·simp only[V.fit];exact⟨by omega,qdo h1⟩
  ·simp only[Ty.k] at h;omega
  ·simp only[Ty.k] at h;omega
  ·obtain rfl:ks=[]:=List.eq_nil_of_length_eq_zero (by omega)
   rfl
  ·simp only[Ty.k] at h;omega
  have fX:=(cJ6 @b1 @b2 @b6 @b7 @b3 @hw)
  refine qcy fn60 (by simp) ?_
  unfold i60
  simp only[argL,encV,qal]
  refine wR0 0 [0,2,4,6] fX ?_
  refine wR0 100 [0,2,4,6,11] fX ?_
  refine wR0 200 [0,2,4,6,11,12] fX ?_
  refine wF fX ?_
  refine wR0 400 [0,2,4,6,11,17] fX ?_
  refine wF fX ?_
  refine wR0 600 [0,2,4,6,11,24] fX ?_
  refine wF fX ?_
  refine wR0 800 [0,2,4,6,34] fX ?_
  refine wF fX ?_
  refine wR0 1000 [0,2,4,6,7] fX ?_
  refine wR0 1100 [0,2,4,6,7,44] fX ?_
  refine wF fX ?_
  refine wRn 1700 [0,2,4,6,7,9] fX ?_
  refine rU [(99999,dkB d)] [(99999,dkB d1)] fX ?_
  refine⟨_,hnx.full1,rE fX ?_⟩
  refine wL ?_
  refine hW _ ?_
  ·intro i
   refine wN ?_
   refine wN ?_
   rcases ks with _ | ⟨y,l⟩
   ·skip
    refine wN ?_
    simp only[rowT,rowH,List.append_nil]
    refine wR0 2100 [6] fX ?_
    refine wE ?_
    refine wN ?_
    first | exact⟨by simp,_,_,_,rfl,rfl,.aggL (.cons (.same rfl) (.cons .nil .nil)) rfl,.keep rfl (qaT _) (.dead rfl (fun h=>by cases h) (.dead rfl (fun h=>by cases h) (.dead rfl (fun h=>by cases h) .nil))),rfl⟩ | exact⟨by simp,_,_,_,rfl,rfl,.aggL (.cons (.same rfl) (.cons (qiz (y::l) rfl rfl rfl rfl) .nil)) rfl,.keep rfl (qaT _) (.dead rfl (fun h=>by cases h) (.dead rfl (fun h=>by cases h) (.dead rfl (fun h=>by cases h) (.dead rfl (fun h=>by cases h) .nil)))),rfl⟩
   ·skip
    refine wN ?_
    simp only[rowT,rowH,List.nil_append,List.cons_append]
    refine wR0 2100 [6] fX ?_
    refine wE ?_
    refine wN ?_
    first | exact⟨by simp,_,_,_,rfl,rfl,.aggL (.cons (.same rfl) (.cons .nil .nil)) rfl,.keep rfl (qaT _) (.dead rfl (fun h=>by cases h) (.dead rfl (fun h=>by cases h) (.dead rfl (fun h=>by cases h) .nil))),rfl⟩ | exact⟨by simp,_,_,_,rfl,rfl,.aggL (.cons (.same rfl) (.cons (qiz (y::l) rfl rfl rfl rfl) .nil)) rfl,.keep rfl (qaT _) (.dead rfl (fun h=>by cases h) (.dead rfl (fun h=>by cases h) (.dead rfl (fun h=>by cases h) (.dead rfl (fun h=>by cases h) .nil)))),rfl⟩
termination_by t=>SizeOf.sizeOf t
decreasing_by all_goals first | exact qds hp _ s rs | exact qds (by rw[hps];exact List.mem_singleton.2 rfl) k s rs
def qhq (t:Ty):Prop:=∃ps,t=.mk 3 0 [] ps∧∀p∈ps,p.k=1∨p.k=2∨p.k=4∨p.k=5∨p.k=7
theorem qsJ {p:Ty}{v:V}(h:lo0 p v)(hk:p.k=1∨p.k=2∨p.k=4∨p.k=5∨p.k=7):qbi p v=v∧v.kids=[]∧ofV p v=true:=by
 rcases p with⟨k,s,rs,ps⟩
 simp only[Ty.k] at hk
 obtain⟨h1,h2,h3⟩:=h
 simp only[Ty.k,Ty.s] at h1 h2 h3
 have hs0:qcl ps []=[]:=by cases ps<;>rfl
 have hh0:qd8 ps []=[]:=by cases ps<;>rfl
 have hof:qeu ps []=true:=by cases ps<;>rfl
 rcases hk with rfl | rfl | rfl | rfl | rfl
 ·obtain⟨x,rfl,a,b⟩:=h1 rfl
  refine⟨rfl,rfl,?_⟩
  rw[ofV]
  have e1:decide (x≥0)=true:=decide_eq_true a
  have e2:decide (x≤1048576)=true:=decide_eq_true (by omega)
  simp[V.n,V.kids,a,show x≤1048576 by omega]
 ·obtain⟨x,rfl,a,b⟩:=h2 rfl
  refine⟨rfl,rfl,?_⟩
  rw[ofV]
  simp[V.n,V.kids,a,b]
 ·obtain rfl:=h3 (.inl rfl)
  refine⟨?_,rfl,?_⟩
  ·simp[qbi,V.n,V.kids,hh0]
  ·simp[ofV,V.n,V.kids,hof,qbq]
 ·obtain rfl:=h3 (.inr (.inl rfl))
  refine⟨?_,rfl,?_⟩
  ·simp[qbi,V.n,V.kids,hh0]
  ·simp[ofV,V.n,V.kids,hof,qbq]
 ·obtain rfl:=h3 (.inr (.inr rfl))
  refine⟨?_,rfl,?_⟩
  ·simp[qbi,V.n,V.kids]
  ·simp[ofV,V.n,V.kids]
theorem qqD:∀ {ps:List Ty} {vs:List V},All2 lo0 ps vs→(∀p∈ps,p.k=1∨p.k=2∨p.k=4∨p.k=5∨p.k=7)→qcl ps vs=vs∧qdH ps vs=true∧vs.length=ps.length∧∀v∈vs,v.kids=[]
 | [],[],_,_=>⟨rfl,rfl,rfl,fun v hv=>by cases hv⟩
 | p::ps,v::vs,.cons h1 h2,hk=>by
  obtain⟨a1,a2,a3⟩:=qsJ h1 (hk p (by simp))
  obtain⟨b1,b2,b3,b4⟩:=qqD h2 fun q hq=>hk q (List.mem_cons_of_mem _ hq)
  refine⟨by rw[qcl,a1,b1],by rw[qdH,a3,b2];rfl,by simp[b3],fun w hw=>?_⟩
  rcases List.mem_cons.1 hw with rfl | hw
  ·exact a2
  ·exact b4 w hw
theorem qiQ:∀(vs:List V) (n most:Int),(∀v∈vs,v.kids=[])→n+vs.length≤most→qcI vs n most≤n+vs.length
 | [],n,most,_,_=>by simp[qcI]
 | ⟨a,ks⟩::vs,n,most,h,hm=>by
  have hk:=h (.mk a ks) (by simp)
  simp only[V.kids] at hk
  subst hk
  simp only[List.length_cons] at hm ⊢
  have ih:=qiQ vs (n+1) most (fun v hv=>h v (List.mem_cons_of_mem _ hv)) (by omega)
  simp only[qcI,qbt]
  rw[if_pos (by omega)]
  omega
theorem qiE {t:Ty}{v:V}(ht:qhq t)(hv:qar t 8=true)(h:lo1 t v):qaX t v=(v,0)∧qaR t v=true:=by
 obtain⟨ps,rfl,hk⟩:=ht
 obtain⟨vs,rfl,h2⟩:=h.2 rfl
 simp only[Ty.ps] at h2
 obtain⟨a1,a2,a3,a4⟩:=qqD h2 hk
 have hl:=(qdX hv).2
 have hsz:qbt (.mk 0 vs) 128≤128:=by
  have:=qiQ vs 1 128 a4 (by omega)
  simp only[qbt];omega
 have hof:ofV (.mk 3 0 [] ps) (.mk 0 vs)=true:=by simp[ofV,V.n,V.kids,a2,a3]
 have hvv:qaR (.mk 3 0 [] ps) (.mk 0 vs)=true:=by simp[qaR,qba,hv,hsz,hof]
 have hs:qbi (.mk 3 0 [] ps) (.mk 0 vs)=.mk 0 vs:=by simp[qbi,V.n,V.kids,a1]
 refine⟨?_,hvv⟩
 rw[qaX,if_neg (by simp[hv]),if_neg (by omega),hs,if_neg (by simp[hvv])]
theorem qcx (t:Ty)(v:V)(hv:v.fit):(qaX t v).1.fit:=by
 unfold qaX
 (repeat' split)<;>first | exact qeB t v hv | simp[v0,V.fit,fitL]
theorem qtH (t:Ty)(d:Dk)(ht:t.fit)(hv:qar t 8=true)(hd:d.ok) :
 ∃(v:V) (d':Dk),v.fit∧(qhq t→qaR t v=true)∧d'.ok∧TC Tryz.prog 32 [dkR,qal t] (hpL [(99999,dkB d)]) (encV v) (hpL [(99999,dkB d')]):=by
 obtain⟨v1,d1,f1,_,ok1,l1⟩:=qeX t 8 3 d ht hv (by omega) hd
 have s1:=qe3 t v1 ht f1
 rcases h1:(qaX t v1).1 with⟨a1,b1⟩
 have g1:=qcx t v1 f1
 rw[h1] at s1 g1
 have w1:=qcK t (.mk a1 b1) ht g1
 rcases v1 with⟨n1,k1⟩
 rcases t with⟨k,s,rs,ps⟩
 simp only[encV,qal] at l1 s1 w1
 rcases hb:qaR (.mk k s rs ps) (.mk a1 b1) with _ | _
 ·obtain⟨v2,d2,f2,lo,ok2,l2⟩:=qeX (.mk k s rs ps) 8 0 d1 ht hv (by omega) ok1
  have s2:=qe3 (.mk k s rs ps) v2 ht f2
  rcases h2:(qaX (.mk k s rs ps) v2).1 with⟨a2,b2⟩
  have g2:=qcx (.mk k s rs ps) v2 f2
  rw[h2] at s2 g2
  refine⟨.mk a2 b2,d2,g2,fun hft=>?_,ok2,?_⟩
  ·obtain⟨e1,e2⟩:=qiE hft hv (lo rfl)
   rw[e1] at h2
   rw[←h2]
   exact e2
  rcases v2 with⟨n2,k2⟩
  simp only[encV,qal] at l2 s2
  have fX:=@hb
  refine qcy fn32 (by simp) ?_
  unfold i32
  simp only[argL,encV,qal]
  refine wR0 0 [0,3,4] fX ?_
  refine wRn 100 [0,3,4,5] fX ?_
  refine rU [(99999,dkB d)] [(99999,dkB d1)] fX ?_
  refine⟨_,l1.full1,rN fX ?_⟩
  refine rC fX ?_
  refine⟨_,s1,rE fX ?_⟩
  refine wRn 200 [0,3,4,5,18] fX ?_
  refine rC fX ?_
  refine⟨_,w1,rE fX ?_⟩
  refine wT @Bool.not_false ?_
  refine wRn 300 [4,5] fX ?_
  refine rU [(99999,dkB d1)] [(99999,dkB d2)] fX ?_
  refine⟨_,l2.full1,rN fX ?_⟩
  refine rC fX ?_
  refine⟨_,s2,rE fX ?_⟩
  refine wR0 400 [4] fX ?_
  refine wE ?_
  refine wN ?_
  exact⟨by simp,_,_,_,rfl,rfl,.same (by simp[mkEl,esz,T.cl,clL,qai]),.keep rfl (qaT _) (.dead rfl (fun h=>by cases h) (.dead rfl (fun h=>by cases h) (.dead rfl (fun h=>by cases h) .nil))),rfl⟩
 ·refine⟨.mk a1 b1,d1,g1,fun _=>hb,ok1,?_⟩
  have fX:=@hb
  refine qcy fn32 (by simp) ?_
  unfold i32
  simp only[argL,encV,qal]
  refine wR0 0 [0,3,4] fX ?_
  refine wRn 100 [0,3,4,5] fX ?_
  refine rU [(99999,dkB d)] [(99999,dkB d1)] fX ?_
  refine⟨_,l1.full1,rN fX ?_⟩
  refine rC fX ?_
  refine⟨_,s1,rE fX ?_⟩
  refine wRn 200 [0,3,4,5,18] fX ?_
  refine rC fX ?_
  refine⟨_,w1,rE fX ?_⟩
  refine wF @Bool.not_true ?_
  refine wR0 400 [4] fX ?_
  refine wE ?_
  refine wN ?_
  exact⟨by simp,_,_,_,rfl,rfl,.same (by simp[mkEl,esz,T.cl,clL,qai]),.keep rfl (qaT _) (.dead rfl (fun h=>by cases h) (.dead rfl (fun h=>by cases h) (.dead rfl (fun h=>by cases h) .nil))),rfl⟩
end
section
open Go.RowKit
def nm2 (x:UInt8×UInt8):ByteArray:=⟨#[x.1,x.2]⟩
theorem qdG (x:UInt8×UInt8):(nm2 x).toList=[x.1,x.2]:=by
 simp[nm2,ByteArray.toList,ByteArray.toList.loop,ByteArray.size,ByteArray.get!]
theorem qjH (x:UInt8×UInt8):(nm2 x).size=2:=rfl
def qoC (x:UInt8×UInt8):Bool:=decide (97≤x.1.toNat)&&decide (x.1.toNat≤122)&&decide (48≤x.2.toNat)&&decide (x.2.toNat≤57)
theorem qsS {x:UInt8×UInt8}(h:qoC x=true):qfa (nm2 x)=true:=by
 obtain⟨a,b⟩:=x
 simp[qoC] at h
 obtain⟨⟨⟨h1,h2⟩,h3⟩,h4⟩:=h
 have e0:qbP (nm2 (a,b)) 0=(a.toNat:Int):=rfl
 have e1:qbP (nm2 (a,b)) 1=(b.toNat:Int):=rfl
 have p0:letB (a.toNat:Int)=true:=by simp[letB];omega
 have p1:digB (b.toNat:Int)=true:=by simp[digB];omega
 have hr:runN (nm2 (a,b)) 2 0=2:=by
  simp[runN,e0,e1,qie,p0,p1]
 have hn:((nm2 (a,b)).toList==ByteArray.toList ⟨#[]⟩)=false:=by
  rw[qdG];simp[ByteArray.toList,ByteArray.toList.loop,ByteArray.size]
 rw[qfa,hn,qjH,e0,p0,hr]
 rfl
theorem nm2_kw (x:UInt8×UInt8):kwS (nm2 x)=false:=by
 rw[kwS,inS,List.any_eq_false]
 intro k hk
 have hl:k.toList.length≠2:=by
  simp only[kws,List.mem_cons,List.not_mem_nil,or_false] at hk
  rcases hk with rfl | rfl | rfl | rfl | rfl | rfl | rfl | rfl | rfl | rfl | rfl | rfl | rfl | rfl | rfl | rfl | rfl | rfl<;>simp[ByteArray.toList,ByteArray.toList.loop,ByteArray.size,ByteArray.get!]
 rw[qdG]
 intro h
 have:=beq_iff_eq.1 h
 rw[←this] at hl
 simp at hl
theorem qt5 (x:UInt8×UInt8):∀l:List (UInt8×UInt8),x∉l→inS (nm2 x) (l.map nm2)=false
 | [],_=>rfl
 | y::l,h=>by
  have ih:=qt5 x l (fun hx=>h (List.mem_cons_of_mem _ hx))
  have hy:x≠y:=fun e=>h (e▸List.mem_cons_self ..)
  simp only[inS,List.map_cons,List.any_cons] at ih ⊢
  rw[ih,qdG,qdG]
  obtain⟨a,b⟩:=x
  obtain⟨c,d⟩:=y
  simp at hy ⊢
  exact hy
theorem ql7:∀(l seen:List (UInt8×UInt8)),(seen++l).Nodup→(∀x∈l,qoC x=true)→newS (seen.map nm2) (l.map nm2)=true
 | [],_,_,_=>rfl
 | x::l,seen,hn,hg=>by
  have hx:x∉seen:=fun h=>by
   have:=(List.nodup_append.1 hn).2.2 x h x (List.mem_cons_self ..)
   exact this rfl
  have ih:=ql7 l (seen++[x]) (by simpa using hn) fun y hy=>hg y (List.mem_cons_of_mem _ hy)
  rw[List.map_append] at ih
  simp only[List.map_cons,newS,qsS (hg x (List.mem_cons_self ..)),nm2_kw,qt5 x seen hx,Bool.not_false,Bool.and_self,Bool.true_and]
  exact ih
def nmP (c:UInt8)(n:Nat):List (UInt8×UInt8):=(List.range n).map fun i=>(c,UInt8.ofNat (48+i))
abbrev sM (m:Md):Slot:=.live ⟨34,mdC m⟩
abbrev sR (r:Rl):Slot:=.live ⟨57,rlC r⟩
end
section
open Go.RowKit
set_option maxHeartbeats 2000000
theorem quR (c d:UInt8):(⟨#[c]⟩:ByteArray)++(ByteArray.empty.push d)=nm2 (c,d):=by
 apply ByteArray.ext
 simp[nm2,ByteArray.push,ByteArray.empty,ByteArray.emptyWithCapacity]
 try rfl
theorem qqM (c:UInt8)(i:Nat)(hi:i≤9):(⟨#[c]⟩:ByteArray)++qfz [IntKind.wrap .u8 (48+(i:Int))]=nm2 (c,UInt8.ofNat (48+i)):=by
 have e:IntKind.wrap .u8 (48+(i:Int))=((48+i:Nat):Int):=by rw[IntKind.wrap_u8];omega
 rw[e]
 exact quR c _
def qbT (c:UInt8)(n:Nat):List ByteArray:=(nmP c n).map nm2
theorem ql4 (c:UInt8)(n:Nat):qbT c (n+1)=qbT c n++[nm2 (c,UInt8.ofNat (48+n))]:=by simp[qbT,nmP,List.range_succ]
theorem qdD (c:UInt8)(n:Nat):(qbT c n).length=n:=by simp[qbT,nmP]
def qo5 (id:Nat)(done:List ByteArray):T:=match done with
 | []=>.nil
 | x::l=>.sl id (l.length+1) 0 0 (l.length+1)
def qo4 (id ty:Nat)(done:List ByteArray):List (Nat×Slot):=match done with
 | []=>[]
 | x::l=>[(id,.live ⟨ty,qas (x::l)⟩)]
theorem qoQ (c:UInt8)(n:Nat)(hn:n≤9)(Q:IExit→(Nat→T)→Heap→Prop)
 (hQ:∀i:Int,Q (.exit 0) (ofL [(0,.str ⟨#[c]⟩),(1,.int .i64 n),(5,qo5 409 (qbT c n)),(6,.int .i64 i),(9,.bool false)]) (hpL (qo4 409 9 (qbT c n)))) :
 ∀(k i:Nat),i+k=n→WL Tryz.prog 23 qkw (ofL [(0,.str ⟨#[c]⟩),(1,.int .i64 n),(5,qo5 409 (qbT c i)),(6,.int .i64 i)]) (hpL (qo4 409 9 (qbT c i))) Q:=by
 intro k
 induction k with
 | zero=>
  intro i hi
  have hd:decide ((i:Int)<(n:Int))=false:=decide_eq_false (by omega)
  have e:i=n:=by omega
  subst e
  have fX:=@hd
  refine qaa qkw.eq_1 ?_
  refine wR0 300 [0,1,5,6,9] fX ?_
  refine wF @hd ?_
  refine wX ?_
  refine wN ?_
  exact hQ _
 | succ k ih=>
  intro i hi
  have hd:decide ((i:Int)<(n:Int))=true:=decide_eq_true (by omega)
  have hw:IntKind.wrap .i64 ((i:Int)+1)=((i+1:Nat):Int):=by rw[wrap64 (by omega) (by omega)];rfl
  have hw48:IntKind.wrap .i64 (48+(i:Int))=48+(i:Int):=wrap64 (by omega) (by omega)
  have hnb:=qqM c i (by omega)
  have hsz:(⟨#[c]⟩:ByteArray).size=1:=rfl
  have hbz:(qfz [IntKind.wrap .u8 (48+(i:Int))]).size=1:=rfl
  have hQ':=ih (i+1) (by omega)
  have h11:1+1≤1000000:=by omega
  have hll:=qdD c i
  rw[ql4] at hQ'
  rcases hnm:qbT c i with _ | ⟨z,l⟩
  ·rw[hnm] at hQ'
   simp only[qo5,qo4,List.nil_append] at hQ' ⊢
   have fX:=(cJ8 @hd @hw @hw48 @qbp @binS.eq_1 @binS.eq_2 @binS.eq_3 (cJ8 @req.eq_34 @req.eq_35 @req.eq_36 @req.eq_37 @Req.run.eq_1 @Req.run.eq_8 @Req.run.eq_9 (cJ7 @Req.run.eq_10 @Req.run.eq_11 @qbQ.eq_1 @qbQ.eq_2 @hsz @hbz @hnb)))
   refine qaa qkw.eq_1 ?_
   refine W_gc ?_
   refine wR0 300 [0,1,5,6,9] fX ?_
   refine wT fX ?_
   refine wR0 400 [0,1,5,6] fX ?_
   refine wR0 500 [0,1,5,6] fX ?_
   refine wN ?_
   refine qaC [409] (by simp[inL]) (by simp[inL,T.cl]) (by simp[qam,inL,Slot.cl,T.cl,clL]) ?_
   simpa [qam,inL,qas] using hQ'
  ·rw[hnm] at hQ' hll
   have hlb:l.length+1≤9:=by simp at hll;omega
   have hel:(qas (z::l)).length=l.length+1:=by simp[qas]
   simp only[qo5,qo4,List.cons_append] at hQ' ⊢
   have fX:=(cJ8 @hd @hw @hw48 @qbp @binS.eq_1 @binS.eq_2 @binS.eq_3 (cJ8 @req.eq_34 @req.eq_35 @req.eq_36 @req.eq_37 @Req.run.eq_1 @Req.run.eq_8 @Req.run.eq_9 (cJ8 @Req.run.eq_10 @Req.run.eq_11 @qbQ.eq_1 @qbQ.eq_2 @hsz @hbz @hnb @hel)))
   refine qaa qkw.eq_1 ?_
   refine W_gc ?_
   refine wR0 300 [0,1,5,6,9] fX ?_
   refine wT fX ?_
   refine wR0 400 [0,1,5,6] fX ?_
   refine wR0 500 [0,1,5,6] fX ?_
   refine wN ?_
   refine qaC [409] (by simp[inL]) (by simp[inL,T.cl]) (by simp[qam,inL,Slot.cl,T.cl,clL,qao]) ?_
   simpa [qam,inL,qas] using hQ'
theorem qnw (c:UInt8)(n:Nat)(hn:n≤9):TP Tryz.prog 27 [.str ⟨#[c]⟩,.int .i64 n] (.list (qas (qbT c n))):=by
 have hlp:=fun Q hQ=>qoQ c n hn Q hQ n 0 (by omega)
 refine qan fn27 (by simp) ?_
 unfold i27
 simp only[argL]
 refine wR0 0 [0,1] cJ0 ?_
 refine wR0 100 [0,1,5] cJ0 ?_
 refine wR0 200 [0,1,5,6] cJ0 ?_
 refine wL ?_
 refine hlp _ ?_
 ·intro i
  refine wN ?_
  refine wN ?_
  rcases hnm:qbT c n with _ | ⟨z,l⟩
  ·skip
   refine wN ?_
   simp only[qo5,qo4]
   refine wR0 600 [4] cJ0 ?_
   refine wP ?_
   first | exact .nil | exact qgL (z::l) rfl rfl rfl
  ·skip
   refine wN ?_
   simp only[qo5,qo4]
   refine wR0 600 [4] cJ0 ?_
   refine wP ?_
   first | exact .nil | exact qgL (z::l) rfl rfl rfl
end
end Go.Proofs.YtpplncjaihgimaaGreat
