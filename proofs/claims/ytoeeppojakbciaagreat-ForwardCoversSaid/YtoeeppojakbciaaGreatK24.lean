/- Contracts of functions of the program, for all arguments that they name. -/
import Derived.Test.YtoeeppojakbciaaGreatK14
import Derived.Test.YtoeeppojakbciaaGreatK23
namespace Go.Proofs.YtoeeppojakbciaaGreat
set_option linter.unusedVariables false
section
open Go.RowKit
set_option maxHeartbeats 2000000
attribute [local simp] qbd qae qal
theorem qjq (l:List Nn)(x:Nn):qcK l++nnC x=qcK (l++[x]):=by simp[qcK]
theorem Par.app {l:List Nn}(h:Par l)(x:Nn)(h1:-1≤x.par)(h2:x.par<l.length):Par (l++[x]):=by
 intro j hj
 rw[List.length_append,List.length_singleton] at hj
 by_cases hjl:j<l.length
 ·have e:(l++[x]).getD j default=l.getD j default:=by simp[List.getD_eq_getElem?_getD,List.getElem?_append_left hjl]
  rw[e];exact h j hjl
 ·have hjl:j=l.length:=by omega
  subst hjl
  have e:(l++[x]).getD l.length default=x:=by simp[List.getD_eq_getElem?_getD]
  rw[e];exact⟨h1,h2⟩
def qb0 (at_:Nat)(s:Int)(v:List Int):List Rl→Nat→List Nn→Int×List Nn
 | [],_,l=>(0,l)
 | r::rs,i,l=>if qbL r s v=true then (if aftO r v=true∧l.length<256 then qb0 at_ s v rs (i+1) (l++[⟨r.to_,qbe (upV l r.to_ at_) (aftR r v),at_,i⟩]) else (1,l)) else qb0 at_ s v rs (i+1) l
structure TreeOk (n:Nat) (l:List Nn):Prop where
 par:Par l
 len:l.length≤256
 vec:∀j,j<l.length→(l.getD j default).vec.length=n
theorem TreeOk.app {n:Nat}{l:List Nn}(h:TreeOk n l)(x:Nn)(h1:-1≤x.par)(h2:x.par<l.length)(h3:l.length<256)(h4:x.vec.length=n):TreeOk n (l++[x]):=by
 refine⟨h.par.app x h1 h2,by simp;omega,fun j hj=>?_⟩
 rw[List.length_append,List.length_singleton] at hj
 by_cases hjl:j<l.length
 ·have e:(l++[x]).getD j default=l.getD j default:=by simp[List.getD_eq_getElem?_getD,List.getElem?_append_left hjl]
  rw[e];exact h.vec j hjl
 ·have hjl:j=l.length:=by omega
  subst hjl
  have e:(l++[x]).getD l.length default=x:=by simp[List.getD_eq_getElem?_getD]
  rw[e];exact h4
theorem qno (vs:List (List Int))(v:List Int):(qbe vs v).length=v.length:=qhQ vs _ v
abbrev gwL (m:Md)(l:List Nn)(next:Int)(n:Nn)(e:Int):List (Nat×Slot):=[(700,sG l),(702,sGr l next),(0,sMg m),(1,.live ⟨38,[.int .i64 e]⟩),(7,.live ⟨55,nnC n⟩)]
abbrev gwF (m:Md)(at_:Nat)(i:Int):List (Nat×T):=[(1,.ref 702 2 0),(4,.ref 1 1 0),(5,.int .i64 at_),(6,.ref 7 4 0),(46,.list (qaB m.rules)),(47,.int .i64 (qaB m.rules).length),(48,.int .i64 i)]
theorem qrD (r:Rl):Ones (rlC r):=fun c hc=>by
 simp only[rlC,List.mem_cons,List.not_mem_nil,or_false] at hc
 rcases hc with rfl | rfl | rfl | rfl | rfl | rfl | rfl | rfl | rfl | rfl | rfl | rfl | rfl | rfl<;>rfl
set_option maxHeartbeats 8000000 in
theorem qs3 (m:Md)(hm:m.rules.length≤1000000)(at_:Nat)(next:Int)(n:Nn)(hv:n.vec≠[])(hvl:n.vec.length≤1000000)(hr:∀r∈m.rules,RoomR r n.vec)(R:Int×List Nn)(Q:IExit→(Nat→T)→Heap→Prop)
 (hQ0:R.1=0→∀j:Int,Q (.exit 2) (ofL (gwF m at_ j++[(49,.bool false)])) (hpL (gwL m R.2 next n 0)))
 (hQ1:R.1=1→Q .ret (ofL [(4,.ref 1 1 0)]) (hpL (gwL m R.2 next n 1++[(203,.dead),(701,.dead)]))) :
 ∀(rs pre:List Rl) (l:List Nn),m.rules=pre++rs→TreeOk n.vec.length l→at_<l.length→qb0 at_ n.st n.vec rs pre.length l=R→
 WL Tryz.prog 101 qdp (ofL (gwF m at_ pre.length)) (hpL (gwL m l next n 0)) Q:=by
 simp only[gwF,gwL,nnC,List.cons_append,List.nil_append] at hQ0 hQ1 ⊢
 intro rs
 induction rs with
 | nil=>
  intro pre l hp ht hat hR
  have hd:decide ((pre.length:Int)<((qaB m.rules).length:Int))=false:=decide_eq_false (by rw[qaD,hp];simp)
  rw[qb0] at hR
  subst hR
  have fX:=@hd
  refine qaa qdp.eq_1 ?_
  refine wR0 100 [1,4,5,6,46,47,48,49] fX ?_
  refine wF @hd ?_
  refine wX ?_
  refine wN ?_
  exact hQ0 rfl _
 | cons r rs ih=>
  intro pre l hp ht hat hR
  have hlt:(pre.length:Int)<((qaB m.rules).length:Int):=by rw[qaD,hp];simp;omega
  have hd:decide ((pre.length:Int)<((qaB m.rules).length:Int))=true:=decide_eq_true hlt
  have hpl:pre.length≤1000000:=by rw[hp] at hm;simp at hm;omega
  have hw:IntKind.wrap .i64 ((pre.length:Int)+1)=((pre.length+1:Nat):Int):=by rw[wrap64 (by omega) (by omega)];rfl
  have hg:(qaB m.rules).getD ((pre.length:Int)).toNat .undef=qa0 r:=by rw[hp];exact qc2 pre r rs
  have hrr:=hr r (by rw[hp];simp)
  have hft:=qsZ r n.st n.vec hrr.need hvl
  have haf:=qqm r n.vec hv hvl hrr
  rw[qb0] at hR
  have hih:=fun l=>ih (pre++[r]) l (by rw[hp];simp)
  simp only[List.length_append,List.length_singleton] at hih
  cases hf:qbL r n.st n.vec with
  | false=>
   rw[hf] at hft
   rw[hf,if_neg (by simp)] at hR
   have hQ':=hih l ht hat hR
   simp only[qa0,rlC] at hg hft haf
   have fX:=(cJ3 @hd @hw @hg)
   refine qaa qdp.eq_1 ?_
   refine W_gc ?_
   refine wR0 100 [1,4,5,6,46,47,48,49] fX ?_
   refine wT @hd ?_
   refine wR0 200 [1,4,5,6,9,10,46,47,48] fX ?_
   refine wRn 300 [1,4,5,6,9,10,46,47,48,59] fX ?_
   refine rC fX ?_
   refine⟨_,hft,rE fX ?_⟩
   refine wT fX ?_
   refine wX ?_
   refine wR0 900 [1,4,5,6,46,47,48] fX ?_
   refine wN ?_
   refine qaP [700,702,0,1,7] (by simp[inL]) (by simp[inL,T.cl,qal]) (by simp[qan,inL,Slot.cl,T.cl,clL,qbd,qae]) ?_
   simpa [qan,inL] using hQ'
  | true=>
   rw[hf] at hft
   rw[hf,if_pos rfl] at hR
   have hwl:(aftR r n.vec).length=n.vec.length:=qbq _ _
   rw[←hwl] at haf
   by_cases hc:aftO r n.vec=true∧l.length<256
   ·rw[if_pos hc] at hR
    have hap:=qjq l ⟨r.to_,qbe (upV l r.to_ at_) (aftR r n.vec),at_,pre.length⟩
    have hlen:=qcz l
    have hrl:=qno (upV l r.to_ at_) (aftR r n.vec)
    have hQ':=hih _ (ht.app ⟨r.to_,qbe (upV l r.to_ at_) (aftR r n.vec),at_,pre.length⟩ (by simp) (by simpa using hat) hc.2 (by simp only;omega)) (by simp;omega) hR
    have hrc:=qru l ht.par (by intro e;rw[e] at hat;simp at hat) (by have:=ht.len;omega) next at_ r.to_ ⟨by omega,by omega⟩ (aftR r n.vec) (by omega) (fun j hj=>by rw[ht.vec j hj];omega)
    have hdc:decide ((l.length:Int)≥256)=false:=decide_eq_false (by omega)
    have hno:Ones [.int .i64 n.st,.list (qac n.vec),.int .i64 n.par,.int .i64 n.rule]:=fun c hc=>by simp only[List.mem_cons,List.not_mem_nil,or_false] at hc;rcases hc with rfl | rfl | rfl | rfl<;>rfl
    have hro:=qrD r
    generalize hW:qbe (upV l r.to_ at_) (aftR r n.vec)=W at*
    rw[hc.1] at haf
    simp only[qa0,rlC,nnC] at hg hft haf hap hro
    have fX:=(cJ7 @hd @hw @hg @hdc @hap @qaK @hlen)
    refine qaa qdp.eq_1 ?_
    refine W_gc ?_
    refine wR0 100 [1,4,5,6,46,47,48,49] fX ?_
    refine wT @hd ?_
    refine wR0 200 [1,4,5,6,9,10,46,47,48] fX ?_
    refine wRn 300 [1,4,5,6,9,10,46,47,48,59] fX ?_
    refine rC fX ?_
    refine⟨_,hft,rE fX ?_⟩
    refine wF fX ?_
    refine wRn 400 [1,4,5,6,9,10,11,12,46,47,48] fX ?_
    refine rU [] [(701,sVv (aftR r n.vec))] fX ?_
    refine⟨_,haf,rE fX ?_⟩
    refine wR0 500 [1,4,5,6,9,10,11,46,47,48,76] fX ?_
    refine wF fX ?_
    refine wRn 700 [1,4,5,6,9,10,11,46,47,48] fX ?_
    refine rU [(700,sG l),(701,sVv (aftR r n.vec))] [(700,sG l),(701,sVv W)] fX ?_
    refine⟨_,TC.full2 hrc (by decide),rE fX ?_⟩
    simp only[thn]
    refine qfP (l':=[(1,.ref 702 2 0),(4,.ref 1 1 0),(5,.int .i64 at_),(6,.ref 7 4 0),(9,.int .i64 pre.length),(10,.ref 203 14 0),(11,.list (qac W)),(46,.list (qaB m.rules)),(47,.int .i64 (qaB m.rules).length),(48,.int .i64 pre.length)]) (hl':=[(700,sG l),(702,sGr l next),(0,sMg m),(1,_),(7,_),(203,_),(701,.dead)]) [700,702,0,1,7,203] (.cons (.same rfl) (.cons (.same rfl) (.cons (.same rfl) (.cons (.same rfl) (.cons (.same rfl) (.cons (.same rfl) (.cons (qoI W rfl rfl (by omega) (by omega)) (.cons (.same (by simp[T.cl])) (.cons (.same rfl) (.cons (.same rfl) .nil)))))))))) (.keep rfl (qrO l) (.keep rfl (.liveA rfl rfl) (.keep rfl (.liveS (qmd _ m) (qce m)) (.keep rfl (.liveA rfl rfl) (.keep rfl (.liveS (by simp[clL,T.cl]) hno) (.keep rfl (.liveS (by simp[clL,T.cl]) hro) (.dead rfl (fun h=>by cases h) .nil))))))) ?_
    refine wR0 800 [1,4,5,6,46,47,48] fX ?_
    refine wR0 900 [1,4,5,6,46,47,48] fX ?_
    refine wN ?_
    refine qaP [700,702,0,1,7] (by simp[inL]) (by simp[inL,T.cl,qal]) (by simp[qan,inL,Slot.cl,T.cl,clL,qbd,qae]) ?_
    simpa [qan,inL,sGr,grT,Nat.add_mul] using hQ'
   ·rw[if_neg hc] at hR
    subst hR
    cases ok:aftO r n.vec with
    | false=>
     rw[ok] at haf
     have hno:Ones [.int .i64 n.st,.list (qac n.vec),.int .i64 n.par,.int .i64 n.rule]:=fun c hc=>by simp only[List.mem_cons,List.not_mem_nil,or_false] at hc;rcases hc with rfl | rfl | rfl | rfl<;>rfl
     simp only[qa0,rlC] at hg hft haf
     have fX:=(cJ3 @hd @hw @hg)
     refine qaa qdp.eq_1 ?_
     refine W_gc ?_
     refine wR0 100 [1,4,5,6,46,47,48,49] fX ?_
     refine wT @hd ?_
     refine wR0 200 [1,4,5,6,9,10,46,47,48] fX ?_
     refine wRn 300 [1,4,5,6,9,10,46,47,48,59] fX ?_
     refine rC fX ?_
     refine⟨_,hft,rE fX ?_⟩
     refine wF fX ?_
     refine wRn 400 [1,4,5,6,9,10,11,12,46,47,48] fX ?_
     refine rU [] [(701,sVv (aftR r n.vec))] fX ?_
     refine⟨_,haf,rE fX ?_⟩
     refine wR0 500 [1,4,5,6,9,10,11,46,47,48,76] fX ?_
     refine wT fX ?_
     refine wN ?_
     refine qfP (l':=[(1,.undef),(4,.ref 1 1 0),(5,.undef),(6,.undef),(9,.undef),(10,.undef),(11,.undef),(46,.undef),(47,.undef),(48,.undef),(76,.undef)]) (hl':=[(700,sG l),(702,sGr l next),(0,sMg m),(1,_),(7,_),(203,.dead),(701,.dead)]) [700,702,0,1,7] (.drop (.cons (.same rfl) (.drop (.drop (.drop (.drop (.drop (.drop (.drop (.drop (.drop .nil))))))))))) (.keep rfl (qrO l) (.keep rfl (.liveA rfl rfl) (.keep rfl (.liveS (qmd _ m) (qce m)) (.keep rfl (.liveA rfl rfl) (.keep rfl (.liveS (by simp[clL,T.cl]) hno) (.dead rfl (fun h=>by cases h) (.dead rfl (fun h=>by cases h) .nil))))))) ?_
     refine wR0 600 [4] fX ?_
     refine wE ?_
     refine wN ?_
     exact hQ1 rfl
    | true=>
     have hdc:decide ((l.length:Int)≥256)=true:=decide_eq_true (by have:¬l.length<256:=fun h=>hc ⟨ok,h⟩;omega)
     rw[ok] at haf
     have hno:Ones [.int .i64 n.st,.list (qac n.vec),.int .i64 n.par,.int .i64 n.rule]:=fun c hc=>by simp only[List.mem_cons,List.not_mem_nil,or_false] at hc;rcases hc with rfl | rfl | rfl | rfl<;>rfl
     simp only[qa0,rlC] at hg hft haf
     have fX:=(cJ4 @hd @hw @hg @hdc)
     refine qaa qdp.eq_1 ?_
     refine W_gc ?_
     refine wR0 100 [1,4,5,6,46,47,48,49] fX ?_
     refine wT @hd ?_
     refine wR0 200 [1,4,5,6,9,10,46,47,48] fX ?_
     refine wRn 300 [1,4,5,6,9,10,46,47,48,59] fX ?_
     refine rC fX ?_
     refine⟨_,hft,rE fX ?_⟩
     refine wF fX ?_
     refine wRn 400 [1,4,5,6,9,10,11,12,46,47,48] fX ?_
     refine rU [] [(701,sVv (aftR r n.vec))] fX ?_
     refine⟨_,haf,rE fX ?_⟩
     refine wR0 500 [1,4,5,6,9,10,11,46,47,48,76] fX ?_
     refine wT fX ?_
     refine wN ?_
     refine qfP (l':=[(1,.undef),(4,.ref 1 1 0),(5,.undef),(6,.undef),(9,.undef),(10,.undef),(11,.undef),(46,.undef),(47,.undef),(48,.undef),(76,.undef)]) (hl':=[(700,sG l),(702,sGr l next),(0,sMg m),(1,_),(7,_),(203,.dead),(701,.dead)]) [700,702,0,1,7] (.drop (.cons (.same rfl) (.drop (.drop (.drop (.drop (.drop (.drop (.drop (.drop (.drop .nil))))))))))) (.keep rfl (qrO l) (.keep rfl (.liveA rfl rfl) (.keep rfl (.liveS (qmd _ m) (qce m)) (.keep rfl (.liveA rfl rfl) (.keep rfl (.liveS (by simp[clL,T.cl]) hno) (.dead rfl (fun h=>by cases h) (.dead rfl (fun h=>by cases h) .nil))))))) ?_
     refine wR0 600 [4] fX ?_
     refine wE ?_
     refine wN ?_
     exact hQ1 rfl
end
section
open Go.RowKit
set_option maxHeartbeats 2000000
theorem qkH (at_:Nat)(s:Int)(v:List Int):∀(rs:List Rl) (i:Nat) (l:List Nn),(qb0 at_ s v rs i l).1=0∨(qb0 at_ s v rs i l).1=1
 | [],_,_=>.inl rfl
 | r::rs,i,l=>by
  rw[qb0]
  split
  ·split
   ·exact qkH at_ s v rs _ _
   ·exact .inr rfl
  ·exact qkH at_ s v rs _ _
def qcq (m:Md)(l:List Nn)(at_:Nat):Int×List Nn:=if (l.getD at_ default).vec∈upV l (l.getD at_ default).st (l.getD at_ default).par then (0,l) else qb0 at_ (l.getD at_ default).st (l.getD at_ default).vec m.rules 0 l
def zR (e:Int):List (Nat×Slot):=if e=1 then [(203,.dead),(701,.dead)] else []
theorem qtb (m:Md)(hm:m.rules.length≤1000000)(at_:Nat)(next:Int)(n:Nn)(hv:n.vec≠[])(hvl:n.vec.length≤1000000)(hr:∀r∈m.rules,RoomR r n.vec)(l:List Nn)(ht:TreeOk n.vec.length l)(hat:at_<l.length)(x8 x38 x40:T)(Q:IExit→(Nat→T)→Heap→Prop)
 (hQ:Q .ret (ofL [(4,.ref 1 1 0)]) (hpL (gwL m (qb0 at_ n.st n.vec m.rules 0 l).2 next n (qb0 at_ n.st n.vec m.rules 0 l).1++zR (qb0 at_ n.st n.vec m.rules 0 l).1))) :
 W Tryz.prog 101 qtm (ofL (gwE m (.int .i64 at_) (.ref 7 4 0) x8 x38 x40)) (hpL (gwL m l next n 0)) Q:=by
 obtain⟨R,hR⟩:∃R,qb0 at_ n.st n.vec m.rules 0 l=R:=⟨_,rfl⟩
 have hE:=qkH at_ n.st n.vec m.rules 0 l
 rw[hR] at hQ hE
 have hL:=fun Q h0 h1=>qs3 m hm at_ next n hv hvl hr R Q h0 h1 m.rules [] l rfl ht hat hR
 simp only[gwF,gwL,gwE,nnC,qas,mdC,List.cons_append,List.nil_append] at hL hQ ⊢
 unfold qtm
 refine wR0 0 [1,4,5,6,46,47,48] cJ0 ?_
 refine wL ?_
 refine hL _ ?_ ?_
 ·intro h j
  refine wN ?_
  refine wR0 1000 [4] cJ0 ?_
  refine wE ?_
  refine wN ?_
  (rw[h] at hQ;exact hQ)
 ·intro h
  refine wN ?_
  (rw[h] at hQ;exact hQ)
theorem qte {m:Md}{x5 x6 x8 x38 x40 x y:T}(t:Nat):ofL (gwE m x5 x6 x8 x38 y) t=qhp [39,40] [x,y] (ofL (gwE m x5 x6 x8 x38 x40)) t∨ofL (gwE m x5 x6 x8 x38 y) t=.undef:=by
 simp only[qhp,putE]
 by_cases h40:t=40
 ·subst h40;left;rfl
 ·by_cases h39:t=39
  ·subst h39;right;rfl
  ·left
   rw[if_neg h40,if_neg h39]
   simp only[qbQ,qg0]
   repeat (split;rfl)
   first
    | rfl
    | (rw[if_neg (fun h=>h40 h.symm),if_neg (fun h=>h40 h.symm)])
    | simp[h40]
theorem qoJ:∃r0 r1 r2 r3 r4 g assign body p7,Tryz.f53.body=some (.seq r0 (.seq r1 (.seq r2 (.seq r3 (.seq (.seq r4 (.block 0 (.rangeFunc g #[39,40] assign body))) p7)))))∧
 qav Tryz.prog 101 r0=some qtg∧qav Tryz.prog 101 r1=some qth∧qav Tryz.prog 101 r2=some qti∧qav Tryz.prog 101 r3=some qtj∧qav Tryz.prog 101 r4=some qtk∧qav Tryz.prog 101 assign=some qtl∧qav Tryz.prog 101 body=some qqT∧qav Tryz.prog 101 p7=some qtm∧opd g=some (.tmp 38):=
 ⟨_,_,_,_,_,_,_,_,_,rfl,by kernel_rfl,by kernel_rfl,by kernel_rfl,by kernel_rfl,by kernel_rfl,by kernel_rfl,by kernel_rfl,by kernel_rfl,by rfl⟩
set_option maxHeartbeats 4000000 in
theorem qtc (m:Md)(hm:m.rules.length≤1000000)(at_ N:Nat)(l:List Nn)(ht:TreeOk N l)(hN:0<N)(hvl:N≤1000000)(hat:at_<l.length)(hr:∀r∈m.rules,RoomR r (l.getD at_ default).vec) :
 TC Tryz.prog 53 [qas m,.ref 702 2 0] (hpL [(700,sG l),(702,sGr l at_)]) (.int .i64 (qcq m l at_).1) (hpL [(700,sG (qcq m l at_).2),(702,sGr (qcq m l at_).2 (at_+1:Nat))]):=by
 obtain⟨r0,r1,r2,r3,r4,g,assign,body,p7,hb,c0,c1,c2,c3,c4,c5,c6,c7,hg⟩:=qoJ
 have hp:=ht.par
 have hlen:=ht.len
 have hl:l≠[]:=by intro e;rw[e] at hat;simp at hat
 obtain⟨n,hn⟩:∃n,l.getD at_ default=n:=⟨_,rfl⟩
 have hvn:n.vec.length=N:=by rw[←hn];exact ht.vec _ hat
 have hpn:=hp at_ hat
 rw[qcq]
 rw[hn] at hr hpn ⊢
 have hv:n.vec≠[]:=by intro e;rw[e] at hvn;simp at hvn;omega
 obtain⟨R,hR⟩:∃R,(if n.vec∈upV l n.st n.par then ((0,l):Int×List Nn) else qb0 at_ n.st n.vec m.rules 0 l)=R:=⟨_,rfl⟩
 rw[hR]
 have h70:hpL (gwN m l (at_+1:Nat) n) 700=sG l:=rfl
 have key:TC Tryz.prog 53 [qas m,.ref 702 2 0] (hpL [(700,sG l),(702,sGr l at_)]) (.int .i64 R.1) (hpL (gwL m R.2 (at_+1:Nat) n R.1++zR R.1)):=by
  refine TC_X (N:=101) (rs:=[(4,some 0)]) Tryz.func53 hb (by kernel_rfl) Tryz.call53 (by kernel_rfl) (by simp) ?_
  refine qgc (qdD c0 ?_)
  refine qs4 m l at_ _ ?_
  show XRun _ _ _ _ _ _ _
  refine qgc (qdD c1 ?_)
  refine qs5 m l at_ _ _ _ _ _ _ ?_
  show XRun _ _ _ _ _ _ _
  refine qgc (qdD c2 ?_)
  refine qs6 m l at_ hat _ _ _ _ _ ?_
  rw[hn]
  show XRun _ _ _ _ _ _ _
  refine qgc (qdD c3 ?_)
  refine qs7 m l at_ (by omega) n _ _ _ _ ?_
  show XRun _ _ _ _ _ _ _
  refine qgc (qgc (qdD c4 ?_))
  refine qs8 m l _ _ n _ _ _ _ ?_
  show XRun _ _ _ _ _ _ _
  refine qkx ?_
  refine X_rng (caps:=qfM 700 l (at_+1:Nat) n.par n.st) (xs:=upX l (upL l n.st n.par)) hg rfl (qqc hp hl (by omega) ⟨hpn.1,by omega⟩ h70) (fun q hq=>by
   simp only[List.mem_cons,List.not_mem_nil,or_false] at hq
   rcases hq with rfl | rfl<;>decide) (fun x hx=>by
   obtain⟨j,_,rfl⟩:=List.mem_map.1 hx;rfl) (fun k=>(upV l n.st n.par).getD k []≠n.vec) (fun k e H'=>e=.ret∧(upV l n.st n.par).getD k []=n.vec∧H'=hpL (gwN m l (at_+1:Nat) n)) ?_ ?_ ?_
  ·intro k hk _ lp
   have hk':k<(upL l n.st n.par).length:=by simpa [upX] using hk
   have hjl:=qqb hp n.st n.par (by omega) _ (List.getElem_mem hk')
   obtain⟨a,haE⟩:∃a,(upV l n.st n.par).getD k []=a:=⟨_,rfl⟩
   have haV:(l.getD (upL l n.st n.par)[k] default).vec=a:=by rw[←haE];simp[upV,List.getD_eq_getElem?_getD,hk']
   have hal:a.length=N:=by rw[←haV];exact ht.vec _ hjl
   have hxs:(upX l (upL l n.st n.par)).getD k []=[.int .i64 (((upL l n.st n.par)[k]:Nat):Int),.list (qac a)]:=by
    rw[←haV];simp[upX,List.getD_eq_getElem?_getD,hk']
   rw[hxs]
   simp only[haE]
   refine⟨_,_,c5,qls qte (qs9 m l _ _ n _ _ (.list (qac a)) _ ⟨rfl,rfl,rfl⟩),?_⟩
   refine qdD c6 ?_
   refine qta m l _ _ n a (by omega) (by omega) _ _ _ (fun hne env=>?_) (fun he=>?_)
   ·exact .inl ⟨rfl,rfl,hne⟩
   ·exact .inr ⟨by simp[IExit.x],rfl,he,rfl⟩
  ·intro hC
   show XRun _ _ _ _ _ _ _
   have hno:n.vec∉upV l n.st n.par:=fun hm'=>by
    obtain⟨k,hk,he⟩:=List.getElem_of_mem hm'
    exact hC k (by simpa [upX,upV] using hk) (by simp[List.getD_eq_getElem?_getD,hk,he])
   rw[if_neg hno] at hR
   refine qdD c7 ?_
   subst hvn
   refine qtb m hm at_ _ n hv hvl hr l ht hat _ _ _ _ ?_
   rw[hR]
   exact⟨.inl rfl,rfl,rfl⟩
  ·rintro k e H' hk hC hne ⟨rfl,he,rfl⟩
   have hk':k<(upV l n.st n.par).length:=by simpa [upX,upV] using hk
   have hin:n.vec∈upV l n.st n.par:=by rw[←he];simp[List.getD_eq_getElem?_getD,hk']
   rw[if_pos hin] at hR
   subst hR
   exact⟨.inl rfl,rfl,rfl⟩
 have hz:qan [700,702] (gwL m R.2 (at_+1:Nat) n R.1++zR R.1)=[(700,sG R.2),(702,sGr R.2 (at_+1:Nat))]:=by rw[zR];split<;>rfl
 rw[←hz]
 refine qdU [700,702] key rfl rfl ?_
 rw[zR]
 split<;>simp[qan,inL,Slot.cl,T.cl,clL,qbd]
end
section
open Go.RowKit
set_option maxHeartbeats 2000000
attribute [local simp] qbd qae qal
def qbj (l:List Nn):List T:=l.map encN
theorem qby (l:List Nn):(qbj l).length=l.length:=by simp[qbj]
theorem qeN (l:List Nn)(i:Nat)(h:i<l.length):(qbj l).getD (i:Int).toNat .undef=encN (l.getD i default):=by
 simp[qbj,List.getD_eq_getElem?_getD,h]
@[simp] theorem qsR (D:Nat→Bool)(n:Nn):(encN n).cl D=true:=by simp[encN,nnC,T.cl,clL,qae]
@[simp] theorem qaJ (D:Nat→Bool)(l:List Nn):clL D (qbj l)=true:=by
 induction l with
 | nil=>rfl
 | cons x l ih=>simp only[qbj,List.map_cons,clL,qsR,Bool.true_and];exact ih
def grC (l:List Nn)(next:Int):List T:=[.list (qbj l),.int .i64 next]
def qbs (l:List Nn)(next:Int):T:=.agg (grC l next)
theorem qmc (v:List Int)(h:v≠[])(hl:v.length≤1000000):TP Tryz.prog 32 [.list (qac v)] (.list (qac v)):=by
 cases v with
 | nil=>exact absurd rfl h
 | cons x l=>exact qjT x l hl
abbrev owE (l:List Nn)(n:Nat)(i:Int):List (Nat×T):=[(1,.ref 0 2 0),(2,.ref 1 2 0),(3,.sl 103 (n*4) 4 0 n),(11,.list (qbj l)),(12,.int .i64 (qbj l).length),(13,.int .i64 i)]
abbrev owH (l:List Nn)(next:Int)(done:List Nn):List (Nat×Slot):=[(0,.live ⟨37,grC l next⟩),(1,.live ⟨37,[.nil,.int .i64 0]⟩),(103,sG done)]
set_option maxHeartbeats 4000000 in
theorem own_l (l:List Nn)(next:Int)(hl:l.length≤100000)(hv:∀j,j<l.length→(l.getD j default).vec≠[]∧(l.getD j default).vec.length≤1000000)(Q:IExit→(Nat→T)→Heap→Prop)(hQ:∀j:Int,Q (.exit 0) (ofL (owE l l.length j++[(14,.bool false)])) (hpL (owH l next l))) :
 ∀(k i:Nat) (done:List Nn),i+k=l.length→done=l.take i→WL Tryz.prog 30 qlW (ofL (owE l i i)) (hpL (owH l next done)) Q:=by
 simp only[owE,owH,grC,List.cons_append,List.nil_append] at hQ ⊢
 intro k
 induction k with
 | zero=>
  intro i done hk hdn
  have hd:decide ((i:Int)<((qbj l).length:Int))=false:=decide_eq_false (by rw[qby];omega)
  have e:done=l:=by rw[hdn];exact List.take_of_length_le (by omega)
  have ei:i=l.length:=by omega
  subst e
  subst ei
  have fX:=@hd
  refine qaa qlW.eq_1 ?_
  refine wR0 300 [1,2,3,11,12,13,14] fX ?_
  refine wF @hd ?_
  refine wX ?_
  refine wN ?_
  exact hQ _
 | succ k ih=>
  intro i done hk hdn
  have hil:i<l.length:=by omega
  have hlt:(i:Int)<((qbj l).length:Int):=by rw[qby];omega
  have hd:decide ((i:Int)<((qbj l).length:Int))=true:=decide_eq_true hlt
  have hw:IntKind.wrap .i64 ((i:Int)+1)=((i+1:Nat):Int):=by rw[wrap64 (by omega) (by omega)];rfl
  have hg:=qeN l i hil
  have hdl:done.length=i:=by rw[hdn,List.length_take];omega
  have hlen:=qcz done
  rw[hdl] at hlen
  have hQ':=ih (i+1) (done++[l.getD i default]) (by omega) (by rw[hdn,List.take_add_one,List.getElem?_eq_getElem hil];simp[List.getD_eq_getElem?_getD,hil])
  have hvi:=hv i hil
  generalize l.getD i default=n at*
  have hcl:=qmc n.vec hvi.1 hvi.2
  have hap:=qjq done n
  simp only[encN,nnC] at hg hap
  have fX:=(cJ6 @hd @hw @hg @hap @qaK @hlen)
  refine qaa qlW.eq_1 ?_
  refine W_gc ?_
  refine wR0 300 [1,2,3,11,12,13,14] fX ?_
  refine wT @hd ?_
  refine wR0 400 [1,2,3,5,11,12,13] fX ?_
  refine wRn 500 [1,2,3,5,11,12,13] fX ?_
  refine rC fX ?_
  refine⟨_,hcl,rE fX ?_⟩
  refine wR0 600 [1,2,3,11,12,13] fX ?_
  refine wR0 700 [1,2,3,11,12,13] fX ?_
  refine wN ?_
  refine qaP [0,1,103] (by simp[inL]) (by simp[inL,T.cl]) (by simp[qan,inL,Slot.cl,T.cl,clL,qbd]) ?_
  simpa [qan,inL,Nat.add_mul] using hQ'
theorem qpe (l:List Nn)(next:Int)(hl:l.length≤100000)(hv:∀j,j<l.length→(l.getD j default).vec≠[]∧(l.getD j default).vec.length≤1000000):TC Tryz.prog 29 [qbs l next] (hpL []) (.agg (grT 103 l next)) (hpL [(103,sG l)]):=by
 have hL:=fun Q h=>own_l l next hl hv Q h l.length 0 [] (by omega) rfl
 have hsz:=qby l
 have key:TC Tryz.prog 29 [qbs l next] (hpL []) (.agg (grT 103 l next)) (hpL [(0,.live ⟨37,grC l next⟩),(1,.live ⟨37,grT 103 l next⟩),(103,sG l)]):=by
  simp only[owE,owH,grC,grT,List.cons_append,List.nil_append] at hL ⊢
  refine qfe fn29 (by simp) ?_
  unfold i29
  simp only[argL,qbs,grC]
  refine wR0 0 [1,2] cJ0 ?_
  refine wR0 100 [1,2,3] cJ0 ?_
  refine wR0 200 [1,2,3,11,12,13] cJ0 ?_
  refine wL ?_
  refine hL _ ?_
  ·intro j
   refine wN ?_
   refine wR0 800 [2] cJ0 ?_
   refine wE ?_
   refine wN ?_
   first | exact⟨by simp,rfl,rfl⟩ | exact⟨by simp,rfl,trivial⟩
 exact qdU [103] key rfl rfl (by simp[qan,inL,Slot.cl,qbd])
theorem qss (l:List Nn)(next:Int)(hl:l.length≤100000)(hv:∀j,j<l.length→(l.getD j default).vec≠[]∧(l.getD j default).vec.length≤1000000):TC Tryz.prog 29 [qbs l next] (hpL []) (.agg (grT 700 l next)) (hpL [(700,sG l)]):=by
 have q1:∀(σ:Nat→Nat),renL σ (qcK l)=qcK l:=fun σ=>qbF _ (qbd _ l)
 have q2:∀(σ:Nat→Nat),renL σ (qbj l)=qbj l:=fun σ=>qbF _ (qaJ _ l)
 refine qi6 [(103,700)] (qpe l next hl hv) ?_ rfl ?_ ?_
 ·simp[qbs,grC,renL,T.ren,q2]
 ·simp[grT,renL,T.ren,swps,swp]
 ·simp[Slot.ren,swps,swp,q1]
theorem qjj (l:List Nn):qcr 4 (qbj l):=fun x hx=>by
 obtain⟨n,_,rfl⟩:=List.mem_map.1 hx;rfl
end
end Go.Proofs.YtoeeppojakbciaaGreat
