/- Contracts of functions of the program, for all arguments that they name. -/
import Derived.Test.YtkbjpglehdhjfaaGreatDoorK29
import Derived.Test.YtkbjpglehdhjfaaGreatDoorK42
namespace Go.Proofs.YtkbjpglehdhjfaaGreatDoor
set_option linter.unusedVariables false
section
open Go.RowKit
theorem qi4 {s:Int}{v:List Int}:∀(rs:List Rl) (q:Nat) (acc:List St3),(∀r∈rs,qcn r s v=true→aftO r v=true)→(allR s v rs q acc).1=0∧((allR s v rs q acc).2=[]↔acc=[]∧∀r∈rs,qcn r s v=false)
 | [],_,acc,_=>⟨rfl,by simp[allR]⟩
 | r::rs,q,acc,h=>by
  rw[allR]
  by_cases hf:qcn r s v=true
  ·rw[if_pos hf,if_pos (h r (List.mem_cons_self ..) hf)]
   have ih:=qi4 (s:=s) (v:=v) rs (q+1) (acc++[⟨q,r.to_,aftR r v⟩]) fun x hx=>h x (List.mem_cons_of_mem _ hx)
   refine⟨ih.1,ih.2.trans ⟨fun hh=>(by simp at hh),fun hh=>?_⟩⟩
   have:=hh.2 r (List.mem_cons_self ..)
   rw[this] at hf;cases hf
  ·rw[if_neg hf]
   have ih:=qi4 (s:=s) (v:=v) rs (q+1) acc fun x hx=>h x (List.mem_cons_of_mem _ hx)
   refine⟨ih.1,ih.2.trans ⟨fun hh=>⟨hh.1,fun x hx=>?_⟩,fun hh=>⟨hh.1,fun x hx=>hh.2 x (List.mem_cons_of_mem _ hx)⟩⟩⟩
   rcases List.mem_cons.1 hx with rfl | hx
   ·simpa using hf
   ·exact hh.2 x hx
theorem qpB {p:Pg}(hp:PgOk p){B s:Int}{v:List Int}(hB:0≤B∧B≤1000000)(h:StOk p B s v):(allR s v (mdl p).rules 0 []).1=0∧((allR s v (mdl p).rules 0 []).2=[]↔qaY p s v=[]):=by
 have hlim:∀r∈(mdl p).rules,qcn r s v=true→aftO r v=true:=by
  intro r hr hf
  obtain⟨j,x,hx,rfl⟩:=qfm hr
  have hm:=qfn hp x hx
  rw[qeU hm j h,canM,Bool.and_eq_true,decide_eq_true_eq] at hf
  exact ql9 hm j hB h.len h.ent hf.2
 have ha:=qi4 (mdl p).rules 0 [] hlim
 refine⟨ha.1,ha.2.trans ?_⟩
 rw[qe6 hp h.val v,List.map_eq_nil_iff,List.filter_eq_nil_iff]
 constructor
 ·intro hh x hx
  obtain⟨j,hj,rfl⟩:=List.getElem_of_mem hx
  have hm:=qfn hp _ (List.getElem_mem hj)
  have hr:mrl p j ((mngs p)[j])∈(mdl p).rules:=by
   rw[mdl]
   exact List.mem_iff_getElem.2 ⟨j,by simpa using hj,by simp⟩
  have:=hh.2 _ hr
  rw[qeU hm j h] at this
  rw[this];simp
 ·intro hh
  refine⟨rfl,fun r hr=>?_⟩
  obtain⟨j,x,hx,rfl⟩:=qfm hr
  rw[qeU (qfn hp x hx) j h]
  have:=hh x hx
  simpa using this
inductive RunS (m:Md):List St3→Int→List Int→Int→List Int→Prop
 | nil (s:Int) (v:List Int):RunS m [] s v s v
 | cons {x:St3} {q:Nat} {l:List St3} {s s':Int} {v v':List Int} (hq:q<m.rules.length) (ex:x.q=q) (hf:qcn (m.rules.getD q rlZ) s v=true) (ha:aftO (m.rules.getD q rlZ) v=true) (es:x.s=(m.rules.getD q rlZ).to_) (ev:x.v=aftR (m.rules.getD q rlZ) v) (h:RunS m l x.s x.v s' v'):RunS m (x::l) s v s' v'
theorem RunS.snoc {m:Md}{l:List St3}{s s1:Int}{v v1:List Int}(h:RunS m l s v s1 v1):∀ {x:St3} {q:Nat},q<m.rules.length→x.q=q→qcn (m.rules.getD q rlZ) s1 v1=true→aftO (m.rules.getD q rlZ) v1=true→x.s=(m.rules.getD q rlZ).to_→x.v=aftR (m.rules.getD q rlZ) v1→RunS m (l++[x]) s v x.s x.v:=by
 induction h with
 | nil s v=>exact fun a b c d e f=>.cons a b c d e f (.nil _ _)
 | cons hq ex hf ha es ev _ ih=>exact fun a b c d e f=>.cons hq ex hf ha es ev (ih a b c d e f)
theorem qi3 {m:Md}{s:Int}{v:List Int}:∀(rs:List Rl) (k:Nat) (acc:List St3),m.rules.drop k=rs→∀x∈(allR s v rs k acc).2,x∈acc∨∃q:Nat,q<m.rules.length∧x.q=q∧qcn (m.rules.getD q rlZ) s v=true∧aftO (m.rules.getD q rlZ) v=true∧x.s=(m.rules.getD q rlZ).to_∧x.v=aftR (m.rules.getD q rlZ) v
 | [],_,_,_,x,hx=>.inl hx
 | r::rs,k,acc,hd,x,hx=>by
  have hk:k<m.rules.length:=by
   refine Classical.byContradiction fun hn=>?_
   rw[List.drop_eq_nil_of_le (by omega)] at hd;cases hd
  have hr:m.rules.getD k rlZ=r:=by
   exact drop_at hk hd
  have hd2:m.rules.drop (k+1)=rs:=by rw[←List.drop_drop,hd];rfl
  rw[allR] at hx
  split at hx
  ·rename_i hf
   split at hx
   ·rename_i ho
    rcases qi3 rs (k+1) _ hd2 x hx with h | h
    ·rcases List.mem_append.1 h with h | h
     ·exact .inl h
     ·rw[List.mem_singleton.1 h]
      exact .inr ⟨k,hk,rfl,by rw[hr];exact hf,by rw[hr];exact ho,by rw[hr],by rw[hr]⟩
    ·exact .inr h
   ·cases hx
  ·exact qi3 rs (k+1) _ hd2 x hx
theorem qkO {m:Md}{s0:Int}{v0:List Int}:∀(n:Nat) (s:Int) (v:List Int) (out:List St3) (d:Dc),d.ok→RunS m out s0 v0 s v→RunS m (qfo m n s v out d).2.1 s0 v0 (qfo m n s v out d).1.1 (qfo m n s v out d).1.2
 | 0,_,_,_,_,_,h=>h
 | n+1,s,v,out,d,hok,h=>by
  rw[qfo]
  split
  ·exact h
  ·rename_i hst
   have hix:=qi3 (m:=m) (s:=s) (v:=v) m.rules 0 [] rfl
   generalize allR s v m.rules 0 []=A at*
   have hS:A.2≠[]:=fun h=>hst (.inr h)
   have hSl:0<A.2.length:=by cases hA:A.2 with | nil=>exact absurd hA hS | cons x l=>simp
   have hpr:=qa6 hok (n:=(A.2.length:Nat)) (by omega)
   have hpl:(qao d (A.2.length:Nat)).1.toNat<A.2.length:=by omega
   have hxo:=hix (A.2.getD (qao d (A.2.length:Nat)).1.toNat default) (by simp[List.getD_eq_getElem?_getD,hpl])
   generalize A.2.getD (qao d (A.2.length:Nat)).1.toNat default=x at*
   rcases hxo with hx | ⟨q,h1,h2,h3,h4,h5,h6⟩
   ·cases hx
   ·exact qkO n _ _ _ _ (qaL hok _) (h.snoc h1 h2 h3 h4 h5 h6)
end
section
open Go.RowKit
set_option maxHeartbeats 2000000
attribute [local simp] qau qav qaD qaJ qa1 qbo qaB qah qa5 qaI
set_option maxHeartbeats 4000000 in
theorem qqk (p:Pg)(hp:p.fit)(hok:okP p=true):TP Tryz.prog 25 [qar p] (begT p):=by
 have hck:=qhZ p hp hok
 have hpp:=qcF p hp hok
 unfold begT
 rw[if_pos hok]
 have hz:((0:Int) != 0)=false:=rfl
 have hpl:(qbe (plP p)).length=(plcs p).length:=by rw[qa0,qbV hok]
 have hpos:0<(plcs p).length:=by
  have ho:=qbq hok
  have:=(ho.th _ (List.getElem_mem (show 0<p.ths.length from ho.pos))).pos
  exact Nat.lt_of_le_of_lt (Nat.zero_le _) (qcS (IsPl.zero ho ho.pos))
 obtain⟨m,hm⟩:∃m,(plcs p).length=m+1:=⟨(plcs p).length - 1,by omega⟩
 have h6:m+1≤6:=by rw[←hm,qbh];exact (qbq hok).six
 rw[hm] at hpl ⊢
 have hrp:repl (m+1) [T.int .i64 0]=.int .i64 0::qad (List.replicate m 0):=qn8 (m+1)
 have hnn:((m+1:Nat):Int).toNat=m+1:=by simp
 have hel:(qad (List.replicate m 0)).length=m:=by rw[qae,List.length_replicate]
 have hlt:(0:Int)<((m+1:Nat):Int):=by omega
 simp only[qar,pgC] at hck hpp ⊢
 generalize qbe (plP p)=PS at*
 have fX:=(cJ5 @hz @hpl @hrp @hnn @hel)
 refine qag fn25 (by simp) ?_
 unfold i25
 simp only[argL]
 refine wR0 0 [1] fX ?_
 refine wRn 100 [1,5] fX ?_
 refine rC fX ?_
 refine⟨_,hck,rE fX ?_⟩
 refine wR0 200 [1,5,10] fX ?_
 refine wF @hz ?_
 refine wRn 400 [6] fX ?_
 refine rC fX ?_
 refine⟨_,hpp,rE fX ?_⟩
 refine wR0 500 [6] fX ?_
 refine wR0 600 [2,3,4] fX ?_
 refine wP ?_
 exact qbU (.same rfl) (qpk m rfl rfl rfl) (.same rfl)
end
section
open Go.RowKit
set_option maxHeartbeats 2000000
attribute [local simp] qau qav qaD qaJ qa1 qbo qaB qah qaT qaO qak qax qc9 qaI qeh
attribute [local simp] qeP
theorem run_ok {p:Pg}(hok:okP p=true)(hp:p.fit){l:List St3}{s s1:Int}{v v1:List Int}(h:RunS (mdl p) l s v s1 v1):∀ {B:Int},0≤B→B+2*l.length≤1000→StOk p B s v→StOk p (B+2*l.length) s1 v1:=by
 induction h with
 | nil s v=>exact fun _ _ h=>by simpa using h
 | @cons x q l s s' v v' hq ex hf ha es ev _ ih=>
  intro B h0 hB h
  simp only[List.length_cons] at hB ⊢
  rw[qiL] at hq
  obtain⟨_,e1,e2,_,e3⟩:=qgk hok hp hq (by omega) h hf
  rw[es,e1,ev,e2] at ih
  have:=ih (B:=B+2) (by omega) (by omega) e3
  have e:B+2+2*(l.length:Int)=B+2*((l.length+1:Nat):Int):=by omega
  rw[←e];exact this
theorem qmY {m:Md}:∀(n:Nat) (s:Int) (v:List Int) (out:List St3) (d:Dc),(qfo m n s v out d).2.1.length≤out.length+n
 | 0,_,_,_,_=>by simp[qfo]
 | n+1,s,v,out,d=>by
  rw[qfo]
  split
  ·simp
  ·refine Nat.le_trans (qmY n _ _ _ _) ?_
   simp only[List.length_append,List.length_singleton];omega
abbrev ruE (M:List Ev)(out:List St3)(s:Int)(v:List Int)(i:Int):List (Nat×T):=[(4,.ref 402 2 0),(5,.ref 505 10 0),(7,.list (qaG M)),(9,.int .i64 s),(10,.list (qad v)),(61,.list (qbG out)),(62,.int .i64 (qbG out).length),(63,.int .i64 i)]
abbrev ruH (p:Pg)(m:Md):List (Nat×Slot):=[(99999,.dead),(402,.live ⟨28,pgC p⟩),(505,.live ⟨37,mdC m⟩),(1206,.dead)]
theorem stC_L (x:St3):stC x=[.int .i64 x.q,.int .i64 0,.list (cfL x.s x.v)]:=rfl
set_option maxHeartbeats 8000000 in
theorem qs8 (p:Pg)(hok:okP p=true)(hp:p.fit)(hm:(mngs p).length≤12)(out:List St3)(hol:out.length≤1000)(s1:Int)(v1:List Int)(Q:IExit→(Nat→T)→Heap→Prop)
 (hQ:∀j:Int,Q (.exit 0) (ofL (ruE ((mngs p).map (fun x:Int×Ev=>x.2)) out s1 v1 j++[(64,.bool false)])) (hpL (ruH p (mdl p)))) :
 ∀ {rest:List St3} {s:Int} {v:List Int},RunS (mdl p) rest s v s1 v1→∀(i:Nat) (B:Int),i+rest.length=out.length→out.drop i=rest→0≤B→B+2*rest.length≤1000→StOk p B s v→
 WL Tryz.prog 152 qr3 (ofL (ruE ((mngs p).map (fun x:Int×Ev=>x.2)) out s v (i:Int))) (hpL (ruH p (mdl p))) Q:=by
 have hz:((0:Int) != 0)=false:=rfl
 have hMl:(qaG ((mngs p).map (fun x:Int×Ev=>x.2))).length=(mngs p).length:=by rw[qbA,List.length_map]
 have hol2:(qbG out).length=out.length:=by simp[qbG]
 simp only[ruE,ruH,pgC,mdC,List.cons_append,List.nil_append] at hQ ⊢
 intro rest s v hrun
 induction hrun with
 | nil s v=>
  intro i B hi hdr h0 hB hst
  simp only[List.length_nil,Nat.add_zero] at hi
  have hd:decide ((i:Int)<((qbG out).length:Int))=false:=decide_eq_false (by omega)
  have fX:=@hd
  refine qaa qr3.eq_1 ?_
  refine wR0 1400 [4,5,7,9,10,61,62,63,64] fX ?_
  refine wF @hd ?_
  refine wX ?_
  refine wN ?_
  exact hQ _
 | @cons x q l s s' v v' hq ex hf ha es ev hr ih=>
  intro i B hi hdr h0 hB hst
  simp only[List.length_cons] at hi hB
  have hlt:(i:Int)<((qbG out).length:Int):=by omega
  have hd:decide ((i:Int)<((qbG out).length:Int))=true:=decide_eq_true hlt
  have hw:IntKind.wrap .i64 ((i:Int)+1)=((i+1:Nat):Int):=by rw[wrap64 (by omega) (by omega)];rfl
  have hgx:out.getD i default=x:=drop_at (by omega) hdr
  have hg:=qiy out i (by omega)
  rw[hgx,stC_L] at hg
  rw[qiL] at hq
  obtain⟨_,e1,e2,e3,e4⟩:=qgk hok hp hq (by omega) hst hf
  rw[e1] at es
  rw[e2] at ev
  have hgm:=qb4 ((mngs p).map (fun x:Int×Ev=>x.2)) q (by rw[List.length_map];exact hq)
  have hdo:=qtB p hp s v (hst.rgt hok (by omega)) _ e3 (fun j=>by have:=e4.ent j;omega)
  rw[←es,←ev] at hdo e4
  have hcf:=qc2 p hp hok hm x.s x.v (by have:=(e4.len);have:=qgi hok;omega)
  rw[qgL,if_pos (e4.rgt hok (by omega))] at hcf
  have hsm:=qqI (cfV x.s x.v) (cfV x.s x.v) (qct _ _ (by have:=(e4.len);have:=qgi hok;omega))
  rw[show qqG (cfV x.s x.v) (cfV x.s x.v)=true from by simp[qqG,qei]] at hsm
  have hdr2:out.drop (i+1)=l:=by rw[←List.drop_drop,hdr];rfl
  have hQ':=ih hQ (i+1) (B+2) (by omega) hdr2 (by omega) (by omega) e4
  have hq0:decide ((q:Int)<0)=false:=decide_eq_false (by omega)
  have hqM:decide ((q:Int)≥((mngs p).length:Int))=false:=decide_eq_false (by omega)
  have hqlt:(q:Int)<((mngs p).length:Int):=by omega
  clear ih hr hq hf ha hdr hdr2 hst e3 e4 es ev hgx hQ e1 e2
  rw[ex] at hg
  obtain⟨xq,xs,xv⟩:=x
  simp only at hg hdo hcf hsm hQ'
  generalize ((mngs p).map (fun x:Int×Ev=>x.2)).getD q default=e at*
  generalize (mngs p).map (fun x:Int×Ev=>x.2)=M at*
  generalize (mngs p).length=nr at*
  generalize mdl p=m at*
  have hyc:∀E,clL E (cfL xs xv)=true:=fun E=>qeh E xs xv
  simp only[qrx,qar,pgC,doT,evC] at hdo hcf hsm hgm ⊢
  generalize cfL xs xv=YS at*
  have fX:=(cJ8 @hd @hw @hg @hgm @hMl @hq0 @hqM (cJ2 @hz @Bool.not_true))
  refine qaa qr3.eq_1 ?_
  refine W_gc ?_
  refine wR0 1400 [4,5,7,9,10,61,62,63,64] fX ?_
  refine wT @hd ?_
  refine wR0 1500 [4,5,7,9,10,15,61,62,63] fX ?_
  refine wR0 1600 [4,5,7,9,10,15,61,62,63,76] fX ?_
  refine wF fX ?_
  refine wRn 1800 [4,5,7,15,16,17,18,61,62,63] fX ?_
  refine rC fX ?_
  refine⟨_,hdo,rE fX ?_⟩
  refine wRn 1900 [4,5,7,15,16,17,18,19,20,61,62,63] fX ?_
  refine rC fX ?_
  refine⟨_,hcf,rE fX ?_⟩
  refine wRn 2000 [4,5,7,16,17,61,62,63,109] fX ?_
  refine rC fX ?_
  refine⟨_,hsm,rE fX ?_⟩
  refine wF fX ?_
  refine wR0 2200 [4,5,7,9,10,61,62,63] fX ?_
  refine wR0 2300 [4,5,7,9,10,61,62,63] fX ?_
  refine wN ?_
  refine qay [99999,402,505,1206] (by simp[inL]) (by simp[inL,T.cl]) (by simp[qaf,inL,Slot.cl,T.cl,clL]) ?_
  simpa [qaf,inL] using hQ'
end
section
open Go.RowKit
set_option maxHeartbeats 2000000
attribute [local simp] qau qav qaD qaJ qa1 qbo qaB qah qaT qaO qak qax qc9 qaI qeh
attribute [local simp] qeP
set_option maxHeartbeats 8000000 in
theorem qrh (s:List Int)(hs:∀j,0≤s.getD j 0∧s.getD j 0≤255)(hsl:s.length≤9223372036854775807)(hm:¬(mngs (prD (newD s)).1).length≤12):TP Tryz.prog 5 [.list (qbT s)] (.bool true):=by
 have hnew:=qey s hsl
 have hd:=qeu hs
 generalize newD s=d at*
 have hpr:=qeA d hd
 have hok:=(qd9 hd).1
 have hfit:=qez hd
 generalize (prD d).1=p at*
 generalize (prD d).2=d1 at*
 have hmod:=qcH p hfit
 rw[qd8,if_pos hok,if_neg hm] at hmod
 have hz:((1:Int) != 0)=true:=rfl
 have hz1:((1:Int)==1)=true:=rfl
 have hsn:=qcQ
 simp only[qar,pgC,qaA,mdC] at hpr hmod
 have fX:=(cJ3 @hz @hz1 @Bool.not_true)
 refine qag fn5 (by simp) ?_
 unfold i5
 simp only[argL]
 refine wR0 0 [0] fX ?_
 refine wRn 100 [0,28] fX ?_
 refine rC fX ?_
 refine⟨_,hsn,rE fX ?_⟩
 refine wF fX ?_
 refine wRn 300 [3] fX ?_
 refine rU [] [(99999,dcB d)] fX ?_
 refine⟨_,hnew,rE fX ?_⟩
 refine wRn 400 [3,4] fX ?_
 refine rU [(99999,dcB d)] [(99999,dcB d1)] fX ?_
 refine⟨_,hpr.fulD,rE fX ?_⟩
 refine wRn 500 [3,4,5,6] fX ?_
 refine rC fX ?_
 refine⟨_,hmod,rE fX ?_⟩
 refine wR0 600 [3,4,5,6,39] fX ?_
 refine wT @hz ?_
 refine wR0 700 [2] fX ?_
 refine wP ?_
 exact .same rfl
set_option maxHeartbeats 8000000 in
theorem qs7 (s:List Int)(hs:∀j,0≤s.getD j 0∧s.getD j 0≤255)(hsl:s.length≤9223372036854775807)(hm:(mngs (prD (newD s)).1).length≤12):TP Tryz.prog 5 [.list (qbT s)] (.bool true):=by
 have hnew:=qey s hsl
 have hd:=qeu hs
 generalize newD s=d at*
 have hpr:=qeA d hd
 have hok:=(qd9 hd).1
 have hd1:=(qd9 hd).2.1
 have hfit:=qez hd
 generalize (prD d).1=p at*
 generalize (prD d).2=d1 at*
 have hn0:=qgi hok
 have ho:=qbq hok
 have hmp:=qfM ho hm
 have hmod:=qcH p hfit
 rw[qd8,if_pos hok,if_pos hm] at hmod
 have hme:=qgh p hfit
 rw[qfN,if_pos hok,if_pos hm] at hme
 have hbg:=qqk p hfit hok
 rw[begT,if_pos hok] at hbg
 have hus:=qie hok (v:=0) (by have:=ho.vals.1;omega) 0
 have hst0:(mdl p).start=cfV 0 (qaN (plcs p).length 0):=rfl
 have hnr:=quk (mdl p) hmp (by rw[qiL];omega) hst0 ⟨by rw[qmS];have:=hus.val;omega,hus.vec (by omega),hus.finv (by omega)⟩ 8 (by omega) d1 hd1
 have hrun:=qkO (m:=mdl p) (s0:=0) (v0:=qaN (plcs p).length 0) (qao d1 (8+1)).1.toNat 0 (qaN (plcs p).length 0) [] (qao d1 (8+1)).2 (qaL hd1 _) (.nil _ _)
 have hlen:=qmY (m:=mdl p) (qao d1 (8+1)).1.toNat 0 (qaN (plcs p).length 0) [] (qao d1 (8+1)).2
 have hp9:=qa6 hd1 (n:=8+1) (by omega)
 rw[qn0] at hnr
 simp only[List.length_nil,Nat.zero_add] at hlen
 have hlen2:(qfo (mdl p) (qao d1 (8+1)).1.toNat 0 (qaN (plcs p).length 0) [] (qao d1 (8+1)).2).2.1.length≤8:=by omega
 clear hlen hp9
 generalize qfo (mdl p) (qao d1 (8+1)).1.toNat 0 (qaN (plcs p).length 0) [] (qao d1 (8+1)).2=N at*
 obtain⟨⟨s1,v1⟩,out,d2⟩:=N
 simp only at hrun hlen2 hnr
 have hfin:=run_ok hok hfit hrun (B:=1) (by omega) (by omega) hus
 have hL:=fun Q hq=>qs8 p hok hfit hm out (by omega) s1 v1 Q hq hrun 0 1 (by omega) rfl (by omega) (by omega) hus
 have hsp:=qh1 p hfit hok s1 v1 (by have:=hfin.len;omega)
 rw[qec,qeb,if_pos (hfin.rgt hok (by omega))] at hsp
 have hcf:=qc2 p hfit hok hm s1 v1 (by have:=hfin.len;omega)
 rw[qgL,if_pos (hfin.rgt hok (by omega))] at hcf
 have hal:=qqi (mdl p) hmp (by rw[qiL];omega) s1 v1 (by rw[qmS];have:=hfin.val;omega) (hfin.vec (by omega)) (hfin.finv (by omega))
 have hlv:=qpB ho (B:=1+2*(out.length:Int)) (by omega) hfin
 rw[hlv.1] at hal
 have hbb:((((qaG (qaY p s1 v1)).length:Int)==0)==(((qbG (allR s1 v1 (mdl p).rules 0 []).2).length:Int)==0))=true:=by
  have e1:(((qaG (qaY p s1 v1)).length:Int)==0)=decide (qaY p s1 v1=[]):=by
   rw[qbA,Bool.eq_iff_iff];simp
  have e2:(((qbG (allR s1 v1 (mdl p).rules 0 []).2).length:Int)==0)=decide ((allR s1 v1 (mdl p).rules 0 []).2=[]):=by
   rw[qbG,List.length_map,Bool.eq_iff_iff];simp
  rw[e1,e2,beq_iff_eq,Bool.eq_iff_iff,decide_eq_true_iff,decide_eq_true_iff]
  exact hlv.2.symm
 have hUl:=qaV (plcs p).length 0
 have hsn:(mdl p).start.n=0:=rfl
 have hsk:(mdl p).start.kids=natV 0::(qaN (plcs p).length 0).map natV:=rfl
 clear hlv hfin hrun hus hst0 hd hd1 hm hok ho hmp
 generalize qaN (plcs p).length 0=U at*
 generalize allR s1 v1 (mdl p).rules 0 []=AR at*
 generalize qaY p s1 v1=L at*
 generalize (mngs p).map (fun x:Int×Ev=>x.2)=M at*
 generalize mdl p=m at*
 have hz:((0:Int) != 0)=false:=rfl
 have h00:((0:Int)==0)=true:=rfl
 have hsa:=qcQ
 have hyc:∀E,clL E (cfL s1 v1)=true:=fun E=>qeh E s1 v1
 simp only[qar,pgC,qaA,mdC,qrx,ruE,ruH,List.cons_append,List.nil_append,Int.natCast_zero] at hpr hmod hme hbg hnr hL hcf hsp hal ⊢
 generalize cfL s1 v1=YS at*
 have fX:=(cJ4 @hz @Bool.not_true @h00 @hbb)
 refine qag fn5 (by simp) ?_
 unfold i5
 simp only[argL]
 refine wR0 0 [0] fX ?_
 refine wRn 100 [0,28] fX ?_
 refine rC fX ?_
 refine⟨_,hsa,rE fX ?_⟩
 refine wF fX ?_
 refine wRn 300 [3] fX ?_
 refine rU [] [(99999,dcB d)] fX ?_
 refine⟨_,hnew,rE fX ?_⟩
 refine wRn 400 [3,4] fX ?_
 refine rU [(99999,dcB d)] [(99999,dcB d1)] fX ?_
 refine⟨_,hpr.fulD,rE fX ?_⟩
 refine wRn 500 [3,4,5,6] fX ?_
 refine rC fX ?_
 refine⟨_,hmod,rE fX ?_⟩
 refine wR0 600 [3,4,5,6,39] fX ?_
 refine wF @hz ?_
 refine wRn 800 [3,4,5,7] fX ?_
 refine rC fX ?_
 refine⟨_,hme,rE fX ?_⟩
 refine wRn 900 [3,4,5,7,9,10,11] fX ?_
 refine rC fX ?_
 refine⟨_,hbg,rE fX ?_⟩
 refine wR0 1000 [3,4,5,7,9,10,54] fX ?_
 refine wF @hz ?_
 refine wRn 1200 [4,5,7,9,10,13] fX ?_
 refine rU [(99999,dcB d1)] [(99999,dcB d2)] fX ?_
 refine⟨_,hnr.fulD,rE fX ?_⟩
 simp only[thn]
 refine qbZ (l':=[(4,.ref 402 2 0),(5,.ref 505 10 0),(7,.list (qaG M)),(9,.int .i64 0),(10,.list (qad U)),(13,.list (qbG out))]) (hl':=[(99999,.dead),(402,.live ⟨28,_⟩),(505,.live ⟨37,_⟩),(1206,.dead)]) [402,505] (.cons (.same rfl) (.cons (.same rfl) (.cons (.same (qaB _ _)) (.cons (.same rfl) (.cons (.same (qah _ _)) (.cons (.same (qeP _ _)) .nil)))))) (.dead rfl (fun h=>by cases h) (.keep rfl (.liveS (qaD _ p) (qa3 p)) (.keep rfl (.liveS (by simp[clL,T.cl]) (qcx rfl)) (.dead rfl (fun h=>by cases h) .nil)))) ?_
 refine wR0 1300 [4,5,7,9,10,61,62,63] fX ?_
 refine wL ?_
 refine hL _ ?_
 ·intro j
  refine wN ?_
  refine wRn 2400 [4,5,9,10,21,22] fX ?_
  refine rC fX ?_
  refine⟨_,hsp,rE fX ?_⟩
  refine wRn 2500 [5,21,22,23,24] fX ?_
  refine rC fX ?_
  refine⟨_,hcf,rE fX ?_⟩
  refine wRn 2600 [21,22,24,25,26] fX ?_
  refine rC fX ?_
  refine⟨_,hal,rE fX ?_⟩
  refine wR0 2700 [2] fX ?_
  refine wP ?_
  exact .same rfl
end
section
theorem qs9:∀s:List Int,(∀j,0≤s.getD j 0∧s.getD j 0≤255)→s.length≤9223372036854775807→TP Tryz.prog 5 [.list (qbT s)] (.bool true):=fun s hs hsl=>
 if hm:(mngs (prD (newD s)).1).length≤12 then qs7 s hs hsl hm else qrh s hs hsl hm
end
end Go.Proofs.YtkbjpglehdhjfaaGreatDoor
