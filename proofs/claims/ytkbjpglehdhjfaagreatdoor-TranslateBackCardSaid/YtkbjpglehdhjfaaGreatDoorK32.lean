/- Contracts of functions of the program, for all arguments that they name. -/
import Derived.Test.YtkbjpglehdhjfaaGreatDoorK07
import Derived.Test.YtkbjpglehdhjfaaGreatDoorK31
namespace Go.Proofs.YtkbjpglehdhjfaaGreatDoor
set_option linter.unusedVariables false
section
open Go.RowKit
set_option maxHeartbeats 2000000
theorem TP.ofNil {P:Program}{f:FuncId}{xs ys:List T}{r:T}(h:TP P f ys r)(hz:FrzL (fun _=>.free) xs ys):TP P f xs r:=h.give hz
theorem qpx (f:FuncId)(caps:List T)(hcaps:clL (fun _=>false) caps=true)(p:Ty→Bool)(xs:List Ty)(hl:xs.length≤1000000)(Q:IExit→(Nat→T)→Heap→Prop):∀(rest pre:List Ty) (i:Nat),xs=pre++rest→pre.length=i→
 (∀k∈rest,TP Tryz.prog f ([qaz k]++caps) (.bool (p k)))→
 (ixF p rest i = -1→∀i:Int,Q (.exit 0) (ofL [(0,.list (qam xs)),(1,.fn f caps),(7,.int .i64 (qam xs).length),(8,.int .i64 i),(9,.bool false)]) (hpL []))→
 (ixF p rest i ≠ -1→Q .ret (ofL [(4,.int .i64 (ixF p rest i))]) (hpL []))→
 WL Tryz.prog 19 qjH (ofL [(0,.list (qam xs)),(1,.fn f caps),(7,.int .i64 (qam xs).length),(8,.int .i64 i)]) (hpL []) Q:=by
 intro rest
 induction rest with
 | nil=>
  intro pre i he hn hk hQ0 hQ1
  have hd:decide ((i:Int)<((qam xs).length:Int))=false:=by simp[qap,he,hn]
  have fX:=@hd
  refine qaa qjH.eq_1 ?_
  refine wR0 200 [0,1,7,8,9] fX ?_
  refine wF @hd ?_
  refine wX ?_
  refine wN ?_
  exact hQ0 rfl _
 | cons k rest ih=>
  intro pre i he hn hk hQ0 hQ1
  rcases k with⟨tk,tsz,trs,tps⟩
  have hlt:(i:Int)<((qam xs).length:Int):=by simp[qap,he];omega
  have hlb:i≤1000000:=by rw[he] at hl;simp at hl;omega
  have hd:decide ((i:Int)<((qam xs).length:Int))=true:=decide_eq_true hlt
  have hg:(qam xs).getD (i:Int).toNat .undef=.agg [.int .i64 tk,.int .i64 tsz,.list (qad trs),.list (qam tps)]:=by rw[Int.toNat_natCast,he,←hn];exact qeR _ (.mk tk tsz trs tps) _
  have hw:IntKind.wrap .i64 ((i:Int)+1)=(i:Int)+1:=wrap64 (by omega) (by omega)
  have fX:=(cJ3 @hd @hg @hw)
  refine qaa qjH.eq_1 ?_
  refine wR0 200 [0,1,7,8,9] fX ?_
  refine wT @hd ?_
  refine wR0 300 [0,1,5,7,8] fX ?_
  refine wRn 400 [0,1,5,7,8,16] fX ?_
  refine rCv fX ?_
  refine⟨_,hk (.mk tk tsz trs tps) (List.mem_cons_self ..),rE fX ?_⟩
  refine wS cJ0 (fun hc400=>?_) (fun hc400=>?_)
  ·skip
   refine wR0 500 [4] fX ?_
   refine wE ?_
   refine wN ?_
   have e:ixF p ((.mk tk tsz trs tps)::rest) i=i:=(by simp[ixF,hc400])
   rw[e] at hQ1
   exact hQ1 (by omega)
  ·skip
   refine wR0 600 [0,1,7,8] fX ?_
   refine wN ?_
   have e:ixF p ((.mk tk tsz trs tps)::rest) i=ixF p rest ((i+1:Nat):Int):=(by simp[ixF,hc400])
   rw[e] at hQ0 hQ1
   have:=ih (pre++[(.mk tk tsz trs tps)]) (i+1) (by simp[he]) (by simp;omega) (fun k' hk'=>hk k' (List.mem_cons_of_mem _ hk')) hQ0 hQ1
   simpa using this
theorem quc (f:FuncId)(caps:List T)(hcaps:clL (fun _=>false) caps=true)(p:Ty→Bool)(xs:List Ty)(hl:xs.length≤1000000)(hk:∀k∈xs,TP Tryz.prog f ([qaz k]++caps) (.bool (p k))):TP Tryz.prog 254 [.list (qam xs),.fn f caps] (.int .i64 (ixF p xs 0)):=by
 refine qag fn254 (by simp) ?_
 unfold i254
 simp only[argL]
 refine wR0 0 [0,1] cJ0 ?_
 refine wR0 100 [0,1,7,8] cJ0 ?_
 refine wL ?_
 refine qpx f caps hcaps p xs hl _ xs [] 0 rfl rfl hk ?_ ?_
 ·intro h i
  refine wN ?_
  refine wR0 700 [4] cJ0 ?_
  refine wP ?_
  exact qaC h.symm
 ·intro h
  refine wN ?_
  exact⟨by simp,_,rfl,by exact .same rfl⟩
theorem qtR (f:FuncId)(caps:List T)(hcaps:clL (fun _=>false) caps=true)(p:Ty→Bool)(xs:List Ty)(hl:xs.length≤1000000)(hk:∀k∈xs,TP Tryz.prog f ([qaz k]++caps) (.bool (p k))):TP Tryz.prog 239 [.list (qam xs),.fn f caps] (.bool (xs.any p)):=by
 have hfr:froL [.list (qam xs),.fn f caps]=true:=by simp[froL,clL,T.cl,hcaps,qdC]
 refine qag fn239 (by simp) ?_
 unfold i239
 simp only[argL]
 refine wR0 0 [0,1] cJ0 ?_
 refine wRn 100 [4] cJ0 ?_
 refine rC cJ0 ?_
 refine⟨_,quc f caps hcaps p xs hl hk,rE cJ0 ?_⟩
 refine wP ?_
 exact qac (qmO p xs 0 (by omega))
theorem qlP (x:Int):TP Tryz.prog 257 [.int .i64 x] (.bool (qeB x)):=by
 refine qag fn257 (by simp) ?_
 unfold i257
 simp only[argL]
 refine wR0 0 [0] cJ0 ?_
 refine wR0 100 [2] cJ0 ?_
 refine wP ?_
 exact qac rfl
theorem qn3 (xs:List Int)(hl:xs.length≤1000000):TP Tryz.prog 252 [.list (qad xs)] (.bool (qd3 xs)):=by
 refine qag fn252 (by simp) ?_
 unfold i252
 simp only[argL]
 refine wR0 0 [0] cJ0 ?_
 refine wRn 100 [2] cJ0 ?_
 refine rCi cJ0 ?_
 refine⟨_,fun hw=>qir 257 [] rfl qeB xs hl (fun k hk=>qlP k),rE cJ0 ?_⟩
 refine wP ?_
 exact qac (by simp only[qd3,qae];rw[Bool.and_comm])
theorem qn4 (rs:List Int)(x:Int):TP Tryz.prog 253 [.int .i64 x,.ptr [.list (qad rs)]] (.bool (decide (x<0) || decide (x≥(rs.length:Int)))):=by
 refine qag fn253 (by simp) ?_
 unfold i253
 simp only[argL]
 refine wR0 0 [0,1] cJ0 ?_
 refine wR0 100 [3] cJ0 ?_
 refine wP ?_
 exact qac (by simp only[qae])
def qqg (rs w:List Int):Bool:=qd3 rs&&decide ((w.length:Int)≤12)&&!w.any fun x=>decide (x<0) || decide (x≥(rs.length:Int))
theorem qqh (rs w:List Int)(hl:rs.length≤1000000)(hlw:w.length≤1000000):TP Tryz.prog 238 [.list (qad rs),.list (qad w)] (.bool (qqg rs w)):=by
 refine qag fn238 (by simp) ?_
 unfold i238
 simp only[argL]
 refine wR0 0 [1,2] cJ0 ?_
 refine wRn 100 [4] cJ0 ?_
 refine rC cJ0 ?_
 refine⟨_,qn3 rs hl,rN cJ0 ?_⟩
 refine rLi [(0,.live ⟨31,[.list (qad rs)]⟩)] cJ0 ?_
 refine⟨_,_,fun hw=>qir 253 [.ptr [.list (qad rs)]] (by simp[clL,T.cl]) (fun x=>decide (x<0) || decide (x≥(rs.length:Int))) w hlw (fun k hk=>qn4 rs k),fZl,rfl,rE cJ0 ?_⟩
 refine wP ?_
 exact qac (by simp only[qqg,qae])
theorem qqs (k s d:Int)(rs:List Int)(ps:List Ty)(hd:0<d∧d≤1000)(h:TP Tryz.prog 206 [qaz (.mk k s rs ps),.int .i64 (d - 1)] (.bool (qaM (.mk k s rs ps) (d - 1)))):TP Tryz.prog 240 [qaz (.mk k s rs ps),.ptr [.int .i64 d]] (.bool (!qaM (.mk k s rs ps) (d - 1))):=by
 have hw:IntKind.wrap .i64 (d - 1)=d - 1:=wrap64 (by omega) (by omega)
 have fX:=@hw
 refine qag fn240 (by simp) ?_
 unfold i240
 simp only[argL,qaz]
 refine wR0 0 [1,2] fX ?_
 refine wRn 100 [3] fX ?_
 refine rC fX ?_
 refine⟨_,h,rE fX ?_⟩
 refine wP ?_
 exact .same rfl
theorem qds (d:Int):∀ps:List Ty,(!ps.any fun p=>!qaM p d)=qbi ps d
 | []=>rfl
 | p::ps=>by rw[qbi,←qds d ps];simp
set_option maxHeartbeats 4000000 in
theorem qnf:∀(t:Ty) (d:Int),t.fit→0≤d→d≤1000→TP Tryz.prog 206 [qaz t,.int .i64 d] (.bool (qaM t d))
 | .mk k s rs ps,d,ht,hd0,hd1=>by
  obtain⟨hf1,hf2,hf3⟩:=Ty.fit_all ht
  have tk:∀(c:Int),(k==c)=true→k=c:=fun c h=>by simpa using h
  have fk:∀(c:Int),(k==c)=false→k≠c:=fun c h=>by simpa using h
  have hcf:0<d→_:=fun hd=>qtR 240 [.ptr [.int .i64 d]] (by simp[clL,T.cl]) (fun p=>!qaM p (d - 1)) ps hf2 (fun p hp=>by
   have:=qnf p (d - 1) (hf3 p hp) (by omega) (by omega)
   rcases p with⟨pk,psz,prs,pps⟩
   exact qqs pk psz d prs pps ⟨hd,hd1⟩ this)
  by_cases hz:d=0
  ·have hd0:(d==0)=true:=by simp[hz]
   refine qag fn206 (by simp) ?_
   unfold i206
   simp only[argL,qaz]
   refine wR0 0 [2,3] cJ0 ?_
   refine wR0 100 [2,3,18] @hd0 ?_
   refine wT cJ0 ?_
   refine wR0 200 [4] cJ0 ?_
   refine wP ?_
   exact qac (by simp[qaM,hz])
  have hd0:(d==0)=false:=by simp[hz]
  refine qag fn206 (by simp) ?_
  unfold i206
  simp only[argL,qaz]
  refine wR0 0 [2,3] cJ0 ?_
  refine wR0 100 [2,3,18] @hd0 ?_
  refine wS cJ0 (fun hc100=>?_) (fun hc100=>?_)
  ·skip
   refine wR0 200 [4] cJ0 ?_
   refine wP ?_
   exact qac (by simp[qae] at hc100;rw[qaM,if_neg hz,if_pos hc100])
  ·skip
   refine wR0 300 [2,3,5] cJ0 ?_
   simp only[thn]
   have h0:d≠0∧¬(0<rs.length∧k≠7):=(by refine⟨hz,fun hh=>?_⟩;simp[qae] at hc100;exact hh.2 (hc100 hh.1))
   have e:=(show qaM (.mk k s rs ps) d=_ from by rw[qaM,if_neg h0.1,if_neg h0.2])
   refine wR0 400 [2,3,5,24] cJ0 ?_
   refine wR0 500 [2,3,5,24,25] cJ0 ?_
   refine wS cJ0 (fun hc500=>?_) (fun hc500=>?_)
   ·skip
    refine wR0 600 [4] cJ0 ?_
    refine wP ?_
    exact qac (by rw[e,if_pos (tk _ hc500)];simp[qap,Bool.and_comm])
   ·skip
    refine wR0 700 [2,3,5,24,33] cJ0 ?_
    refine wS cJ0 (fun hc700=>?_) (fun hc700=>?_)
    ·skip
     refine wT @hc700 ?_
     refine wR0 900 [4] cJ0 ?_
     refine wP ?_
     exact qac (by have k6:k=2∨k=6:=(by first | exact .inl (tk _ hc700) | exact .inr (tk _ hc800));rw[e,if_neg (fk _ hc500),if_pos k6,Bool.eq_iff_iff];simp[qap];exact⟨fun h=>⟨⟨h.1.2,h.2⟩,h.1.1⟩,fun h=>⟨⟨h.2,h.1.1⟩,h.1.2⟩⟩)
    ·skip
     refine wR0 800 [2,3,5,24,33] cJ0 ?_
     refine wS cJ0 (fun hc800=>?_) (fun hc800=>?_)
     ·skip
      refine wR0 900 [4] cJ0 ?_
      refine wP ?_
      exact qac (by have k6:k=2∨k=6:=(by first | exact .inl (tk _ hc700) | exact .inr (tk _ hc800));rw[e,if_neg (fk _ hc500),if_pos k6,Bool.eq_iff_iff];simp[qap];exact⟨fun h=>⟨⟨h.1.2,h.2⟩,h.1.1⟩,fun h=>⟨⟨h.2,h.1.1⟩,h.1.2⟩⟩)
     ·skip
      refine wR0 1000 [2,3,5,24,47] cJ0 ?_
      refine wS cJ0 (fun hc1000=>?_) (fun hc1000=>?_)
      ·skip
       refine wRn 1100 [4] cJ0 ?_
       refine rCi cJ0 ?_
       refine⟨_,fun hw=>TP.ofNil (qqh rs [] hf1 (by simp)) (by exact fZl),rE cJ0 ?_⟩
       refine wP ?_
       exact qac (by have k7:=tk _ hc1000;rw[e,if_neg (fk _ hc500),if_neg (by omega),if_pos k7];simp only[qap,qae,qqg,qd3,List.any_nil,List.length_nil,Bool.not_false,Bool.and_true];generalize (!rs.any qeB)=q;rw[Bool.eq_iff_iff];cases q<;>simp[-List.length_eq_zero_iff]<;>omega)
      ·skip
       refine wR0 1200 [2,3,5,24,63] cJ0 ?_
       refine wS cJ0 (fun hc1200=>?_) (fun hc1200=>?_)
       ·skip
        refine wR0 1300 [2,3,76] cJ0 ?_
        refine wS cJ0 (fun hc1300=>?_) (fun hc1300=>?_)
        ·skip
         refine wR0 1400 [4] cJ0 ?_
         refine wP ?_
         exact qac (by have k3:=tk _ hc1200;simp[qap,-List.length_eq_zero_iff] at hc1300;have h3:((s==0)&&!decide ((ps.length:Int)<1)&&!decide ((ps.length:Int) > 8))=false:=(by rw[Bool.eq_false_iff];simp[-List.length_eq_zero_iff];omega);rw[e,if_neg (by omega),if_neg (by omega),if_neg (by omega),if_neg (by omega),if_pos k3,h3,Bool.false_and])
        ·skip
         refine wN ?_
         have e2:qaM (.mk k s rs ps) d=qbi ps (d - 1):=(by first | (have k3:=tk _ hc1200;simp[qap,-List.length_eq_zero_iff] at hc1300;have h3:((s==0)&&!decide ((ps.length:Int)<1)&&!decide ((ps.length:Int) > 8))=true:=(by simp[-List.length_eq_zero_iff];omega);rw[e,if_neg (by omega),if_neg (by omega),if_neg (by omega),if_neg (by omega),if_pos k3,h3,Bool.true_and]) | (have k4:k=4∨k=5:=(by first | exact .inl (tk _ hc1500) | exact .inr (tk _ hc1600));simp[qap] at hc1700;rw[e,if_neg (by omega),if_neg (by omega),if_neg (by omega),if_pos k4];simp[hc1700]))
         refine wRn 2000 [4] cJ0 ?_
         refine rL [(1,.live ⟨3,[.int .i64 d]⟩)] cJ0 ?_
         refine⟨_,_,hcf (by omega),fZl,rfl,rE cJ0 ?_⟩
         refine wP ?_
         exact qac (by rw[e2,qds])
       ·skip
        refine wR0 1500 [2,3,24,77] cJ0 ?_
        refine wS cJ0 (fun hc1500=>?_) (fun hc1500=>?_)
        ·skip
         refine wT @hc1500 ?_
         refine wR0 1700 [2,3,88] cJ0 ?_
         refine wS cJ0 (fun hc1700=>?_) (fun hc1700=>?_)
         ·skip
          refine wR0 1800 [4] cJ0 ?_
          refine wP ?_
          exact qac (by have k4:k=4∨k=5:=(by first | exact .inl (tk _ hc1500) | exact .inr (tk _ hc1600));rw[e,if_neg (by omega),if_neg (by omega),if_neg (by omega),if_pos k4,Bool.eq_iff_iff];simp[qap] at hc1700;simp;omega)
         ·skip
          refine wN ?_
          have e2:qaM (.mk k s rs ps) d=qbi ps (d - 1):=(by first | (have k3:=tk _ hc1200;simp[qap,-List.length_eq_zero_iff] at hc1300;have h3:((s==0)&&!decide ((ps.length:Int)<1)&&!decide ((ps.length:Int) > 8))=true:=(by simp[-List.length_eq_zero_iff];omega);rw[e,if_neg (by omega),if_neg (by omega),if_neg (by omega),if_neg (by omega),if_pos k3,h3,Bool.true_and]) | (have k4:k=4∨k=5:=(by first | exact .inl (tk _ hc1500) | exact .inr (tk _ hc1600));simp[qap] at hc1700;rw[e,if_neg (by omega),if_neg (by omega),if_neg (by omega),if_pos k4];simp[hc1700]))
          refine wRn 2000 [4] cJ0 ?_
          refine rL [(1,.live ⟨3,[.int .i64 d]⟩)] cJ0 ?_
          refine⟨_,_,hcf (by omega),fZl,rfl,rE cJ0 ?_⟩
          refine wP ?_
          exact qac (by rw[e2,qds])
        ·skip
         refine wR0 1600 [2,3,77] cJ0 ?_
         refine wS cJ0 (fun hc1600=>?_) (fun hc1600=>?_)
         ·skip
          refine wR0 1700 [2,3,88] cJ0 ?_
          refine wS cJ0 (fun hc1700=>?_) (fun hc1700=>?_)
          ·skip
           refine wR0 1800 [4] cJ0 ?_
           refine wP ?_
           exact qac (by have k4:k=4∨k=5:=(by first | exact .inl (tk _ hc1500) | exact .inr (tk _ hc1600));rw[e,if_neg (by omega),if_neg (by omega),if_neg (by omega),if_pos k4,Bool.eq_iff_iff];simp[qap] at hc1700;simp;omega)
          ·skip
           refine wN ?_
           have e2:qaM (.mk k s rs ps) d=qbi ps (d - 1):=(by first | (have k3:=tk _ hc1200;simp[qap,-List.length_eq_zero_iff] at hc1300;have h3:((s==0)&&!decide ((ps.length:Int)<1)&&!decide ((ps.length:Int) > 8))=true:=(by simp[-List.length_eq_zero_iff];omega);rw[e,if_neg (by omega),if_neg (by omega),if_neg (by omega),if_neg (by omega),if_pos k3,h3,Bool.true_and]) | (have k4:k=4∨k=5:=(by first | exact .inl (tk _ hc1500) | exact .inr (tk _ hc1600));simp[qap] at hc1700;rw[e,if_neg (by omega),if_neg (by omega),if_neg (by omega),if_pos k4];simp[hc1700]))
           refine wRn 2000 [4] cJ0 ?_
           refine rL [(1,.live ⟨3,[.int .i64 d]⟩)] cJ0 ?_
           refine⟨_,_,hcf (by omega),fZl,rfl,rE cJ0 ?_⟩
           refine wP ?_
           exact qac (by rw[e2,qds])
         ·skip
          refine wR0 1900 [4] cJ0 ?_
          refine wP ?_
          exact qac (by rw[e,if_neg (fk _ hc500),if_neg (fun h=>h.elim (fk _ hc700) (fk _ hc800)),if_neg (fk _ hc1000),if_neg (fun h=>h.elim (fk _ hc1500) (fk _ hc1600)),if_neg (fk _ hc1200)])
termination_by t=>SizeOf.sizeOf t
decreasing_by exact qkb hp k s rs
theorem qpW (t:Ty)(ht:t.fit):TP Tryz.prog 167 [qaz t] (.int .i64 (qcC t)):=by
 rcases t with⟨k,s,rs,ps⟩
 refine qag fn167 (by simp) ?_
 unfold i167
 simp only[argL,qaz]
 refine wR0 0 [1] cJ0 ?_
 refine wRn 100 [5] cJ0 ?_
 refine rC cJ0 ?_
 refine⟨_,qnf (.mk k s rs ps) 8 ht (by omega) (by omega),rE cJ0 ?_⟩
 refine wS cJ0 (fun hc100=>?_) (fun hc100=>?_)
 ·skip
  refine wR0 200 [2] cJ0 ?_
  refine wP ?_
  exact qaC (by simp at hc100;simp[qcC,hc100])
 ·skip
  refine wR0 300 [2] cJ0 ?_
  refine wP ?_
  exact qaC (by simp at hc100;simp[qcC,hc100])
theorem qsp (v:V):decide (qm3 v≤128)=decide (qcb v 128≤128):=by
 rw[Bool.eq_iff_iff];simp only[decide_eq_true_eq];unfold qm3;split<;>omega
theorem qkQ (t:Ty)(v:V)(ht:t.fit)(hv:v.fit):TP Tryz.prog 114 [qaz t,encV v] (.bool (qdt t v)):=by
 rcases t with⟨k,s,rs,ps⟩
 rcases v with⟨n,ks⟩
 refine qag fn114 (by simp) ?_
 unfold i114
 simp only[argL,encV,qaz]
 refine wR0 0 [2,3] cJ0 ?_
 refine wRn 100 [4] cJ0 ?_
 refine rC cJ0 ?_
 refine⟨_,qpW (.mk k s rs ps) ht,rN cJ0 ?_⟩
 refine rCi cJ0 ?_
 refine⟨_,fun hw=>qsq (.mk n ks) hv,rN cJ0 ?_⟩
 refine rCi cJ0 ?_
 refine⟨_,fun hw=>qm0 (.mk k s rs ps) (.mk n ks) 8 ht hv (by rw[←qkh];simp at hw;simp[hw.1]),rE cJ0 ?_⟩
 refine wP ?_
 exact qac (by rw[qdt,←qsp])
theorem qiz (pre:List Tk)(k:Tk)(ks:List Tk):(qb1 (pre++k::ks)).getD pre.length .undef=qnN k:=by
 simp[qb1,List.getD_eq_getElem?_getD]
theorem qbM (x a b:Int):TP Tryz.prog 159 [.int .i64 x,.int .i64 a,.int .i64 b] (.bool (btw x a b)):=by
 refine qag fn159 (by simp) ?_
 unfold i159
 simp only[argL]
 refine wR0 0 [0,1,2] cJ0 ?_
 refine wR0 100 [6] cJ0 ?_
 refine wP ?_
 exact qac rfl
theorem qgX (x n:Int)(hn:-1000000000000≤n∧n≤1000000000000):TP Tryz.prog 197 [.int .i64 x,.int .i64 n] (.bool (btw x 0 (n - 1))):=by
 have hw:IntKind.wrap .i64 (n - 1)=n - 1:=wrap64 (by omega) (by omega)
 have fX:=@hw
 refine qag fn197 (by simp) ?_
 unfold i197
 simp only[argL]
 refine wR0 0 [0,1] fX ?_
 refine wRn 100 [4] fX ?_
 refine rC fX ?_
 refine⟨_,qbM x 0 (n - 1),rE fX ?_⟩
 refine wP ?_
 exact qac rfl
theorem qpX (k:Int):TP Tryz.prog 192 [.int .i64 k] (.agg (qad (limC k))):=by
 have tk:∀(c:Int),(k==c)=true→k=c:=fun c h=>by simpa using h
 have fk:∀(c:Int),(k==c)=false→k≠c:=fun c h=>by simpa using h
 refine qag fn192 (by simp) ?_
 unfold i192
 simp only[argL]
 refine wR0 0 [0,2] cJ0 ?_
 refine wR0 100 [0,2,3] cJ0 ?_
 refine wR0 200 [2,3,5] cJ0 ?_
 refine wR0 300 [2,3,5,10] cJ0 ?_
 refine wS cJ0 (fun hc300=>?_) (fun hc300=>?_)
 ·skip
  refine wT @hc300 ?_
  refine wR0 500 [2,3] cJ0 ?_
  refine wR0 1200 [2] cJ0 ?_
  refine wP ?_
  first | (have h1:k=1∨k=6:=(by first | exact .inl (tk _ hc300) | exact .inr (tk _ hc400));rw[limC,if_pos h1];exact .same rfl) | (rw[limC,if_neg (fun h=>h.elim (fk _ hc300) (fk _ hc400))];first | (have h2:k=2∨k=3:=(by first | exact .inl (tk _ hc600) | exact .inr (tk _ hc700));rw[if_pos h2];exact .same rfl) | (rw[if_neg (fun h=>h.elim (fk _ hc600) (fk _ hc700))];first | (have h3:=tk _ hc900;rw[if_pos h3];exact .same rfl) | (rw[if_neg (fk _ hc900)];exact .same rfl)))
 ·skip
  refine wR0 400 [2,3,5,10] cJ0 ?_
  refine wS cJ0 (fun hc400=>?_) (fun hc400=>?_)
  ·skip
   refine wR0 500 [2,3] cJ0 ?_
   refine wR0 1200 [2] cJ0 ?_
   refine wP ?_
   first | (have h1:k=1∨k=6:=(by first | exact .inl (tk _ hc300) | exact .inr (tk _ hc400));rw[limC,if_pos h1];exact .same rfl) | (rw[limC,if_neg (fun h=>h.elim (fk _ hc300) (fk _ hc400))];first | (have h2:k=2∨k=3:=(by first | exact .inl (tk _ hc600) | exact .inr (tk _ hc700));rw[if_pos h2];exact .same rfl) | (rw[if_neg (fun h=>h.elim (fk _ hc600) (fk _ hc700))];first | (have h3:=tk _ hc900;rw[if_pos h3];exact .same rfl) | (rw[if_neg (fk _ hc900)];exact .same rfl)))
  ·skip
   refine wR0 600 [2,3,5,15] cJ0 ?_
   refine wS cJ0 (fun hc600=>?_) (fun hc600=>?_)
   ·skip
    refine wT @hc600 ?_
    refine wR0 800 [2,3] cJ0 ?_
    refine wR0 1200 [2] cJ0 ?_
    refine wP ?_
    first | (have h1:k=1∨k=6:=(by first | exact .inl (tk _ hc300) | exact .inr (tk _ hc400));rw[limC,if_pos h1];exact .same rfl) | (rw[limC,if_neg (fun h=>h.elim (fk _ hc300) (fk _ hc400))];first | (have h2:k=2∨k=3:=(by first | exact .inl (tk _ hc600) | exact .inr (tk _ hc700));rw[if_pos h2];exact .same rfl) | (rw[if_neg (fun h=>h.elim (fk _ hc600) (fk _ hc700))];first | (have h3:=tk _ hc900;rw[if_pos h3];exact .same rfl) | (rw[if_neg (fk _ hc900)];exact .same rfl)))
   ·skip
    refine wR0 700 [2,3,5,15] cJ0 ?_
    refine wS cJ0 (fun hc700=>?_) (fun hc700=>?_)
    ·skip
     refine wR0 800 [2,3] cJ0 ?_
     refine wR0 1200 [2] cJ0 ?_
     refine wP ?_
     first | (have h1:k=1∨k=6:=(by first | exact .inl (tk _ hc300) | exact .inr (tk _ hc400));rw[limC,if_pos h1];exact .same rfl) | (rw[limC,if_neg (fun h=>h.elim (fk _ hc300) (fk _ hc400))];first | (have h2:k=2∨k=3:=(by first | exact .inl (tk _ hc600) | exact .inr (tk _ hc700));rw[if_pos h2];exact .same rfl) | (rw[if_neg (fun h=>h.elim (fk _ hc600) (fk _ hc700))];first | (have h3:=tk _ hc900;rw[if_pos h3];exact .same rfl) | (rw[if_neg (fk _ hc900)];exact .same rfl)))
    ·skip
     refine wR0 900 [2,3,22] cJ0 ?_
     refine wS cJ0 (fun hc900=>?_) (fun hc900=>?_)
     ·skip
      refine wR0 1000 [2,3] cJ0 ?_
      refine wR0 1200 [2] cJ0 ?_
      refine wP ?_
      first | (have h1:k=1∨k=6:=(by first | exact .inl (tk _ hc300) | exact .inr (tk _ hc400));rw[limC,if_pos h1];exact .same rfl) | (rw[limC,if_neg (fun h=>h.elim (fk _ hc300) (fk _ hc400))];first | (have h2:k=2∨k=3:=(by first | exact .inl (tk _ hc600) | exact .inr (tk _ hc700));rw[if_pos h2];exact .same rfl) | (rw[if_neg (fun h=>h.elim (fk _ hc600) (fk _ hc700))];first | (have h3:=tk _ hc900;rw[if_pos h3];exact .same rfl) | (rw[if_neg (fk _ hc900)];exact .same rfl)))
     ·skip
      refine wR0 1100 [2,3] cJ0 ?_
      refine wR0 1200 [2] cJ0 ?_
      refine wP ?_
      first | (have h1:k=1∨k=6:=(by first | exact .inl (tk _ hc300) | exact .inr (tk _ hc400));rw[limC,if_pos h1];exact .same rfl) | (rw[limC,if_neg (fun h=>h.elim (fk _ hc300) (fk _ hc400))];first | (have h2:k=2∨k=3:=(by first | exact .inl (tk _ hc600) | exact .inr (tk _ hc700));rw[if_pos h2];exact .same rfl) | (rw[if_neg (fun h=>h.elim (fk _ hc600) (fk _ hc700))];first | (have h3:=tk _ hc900;rw[if_pos h3];exact .same rfl) | (rw[if_neg (fk _ hc900)];exact .same rfl)))
theorem que (k:Int):∃a b c d e f g h,limC k=[a,b,c,d,e,f,g,h]:=by
 unfold limC
 (repeat' split)<;>exact⟨_,_,_,_,_,_,_,_,rfl⟩
set_option maxHeartbeats 4000000 in
theorem qsF (m:Md):TP Tryz.prog 160 [qaA m] (.bool (qbg m)):=by
 have hof:=qpX m.kind
 obtain⟨a,b,c,d,e,f,g,h,hl⟩:=que m.kind
 rw[hl] at hof
 have fX:=@qad.eq_1
 refine qag fn160 (by simp) ?_
 unfold i160
 simp only[argL,qaA,mdC]
 refine wR0 0 [1] fX ?_
 refine wRn 100 [1,3] fX ?_
 refine rC fX ?_
 refine⟨_,hof,rE fX ?_⟩
 refine wRn 200 [2] fX ?_
 refine rC fX ?_
 refine⟨_,qbM _ _ _,rN fX ?_⟩
 refine rCi fX ?_
 refine⟨_,fun hw=>qbM _ _ _,rN fX ?_⟩
 refine rCi fX ?_
 refine⟨_,fun hw=>qbM _ _ _,rN fX ?_⟩
 refine rCi fX ?_
 refine⟨_,fun hw=>qbM _ _ _,rN fX ?_⟩
 refine rCi fX ?_
 refine⟨_,fun hw=>qbM _ _ _,rE fX ?_⟩
 refine wP ?_
 exact qac (by simp[qbg,hl,qai,qaS])
theorem qn5 (x:Int):TP Tryz.prog 193 [.int .i64 x] (.bool (!btw x 0 5)):=by
 refine qag fn193 (by simp) ?_
 unfold i193
 simp only[argL]
 refine wR0 0 [0] cJ0 ?_
 refine wRn 100 [2] cJ0 ?_
 refine rC cJ0 ?_
 refine⟨_,qbM x 0 5,rE cJ0 ?_⟩
 refine wP ?_
 exact qac rfl
theorem qqj (m:Md)(hm:m.fit):TP Tryz.prog 161 [qaA m] (.bool (qdq m)):=by
 refine qag fn161 (by simp) ?_
 unfold i161
 simp only[argL,qaA,mdC]
 refine wR0 0 [1] cJ0 ?_
 refine wR0 100 [1,5] cJ0 ?_
 refine wS cJ0 (fun hc100=>?_) (fun hc100=>?_)
 ·skip
  refine wR0 200 [2] cJ0 ?_
  refine wP ?_
  exact qac (by simp at hc100;rw[qdq,if_pos hc100,qae])
 ·skip
  refine wRn 300 [2] cJ0 ?_
  refine rCi cJ0 ?_
  refine⟨_,fun hw=>qir 193 [] rfl (fun x=>!btw x 0 5) m.ranks hm.ranks (fun k hk=>qn5 k),rE cJ0 ?_⟩
  refine wP ?_
  exact qac (by simp at hc100;rw[qdq,if_neg (by simp[hc100]),qae,qai])
def kwT:List T:=[.str ⟨#[109,111,100,101,108]⟩,.str ⟨#[115,116,97,116,101,115]⟩,.str ⟨#[112,108,97,99,101,115]⟩,.str ⟨#[108,101,116,116,101,114,115]⟩,.str ⟨#[108,101,118,101,108,115]⟩,.str ⟨#[97,103,101]⟩,.str ⟨#[114,117,108,101]⟩,.str ⟨#[110,101,101,100]⟩,.str ⟨#[103,105,118,101]⟩,.str ⟨#[109,111,118,101]⟩,.str ⟨#[101,109,112,116,121]⟩,.str ⟨#[115,101,110,100]⟩,.str ⟨#[114,101,99,101,105,118,101]⟩,.str ⟨#[112,97,116,104]⟩,.str ⟨#[110,101,120,116]⟩,.str ⟨#[116,97,107,101]⟩,.str ⟨#[109,97,107,101]⟩,.str ⟨#[115,116,97,114,116]⟩]
set_option maxHeartbeats 2000000 in
theorem qiJ (s:ByteArray):TP Tryz.prog 195 [.str s] (.bool (kwS s)):=by
 have hk:=qgJ s kws (by decide)
 have hkc:clL (fun i=>decide (i=100)) kwT=true:=rfl
 have hrp:repl 18 [T.str ⟨#[]⟩]=[.str ⟨#[]⟩,.str ⟨#[]⟩,.str ⟨#[]⟩,.str ⟨#[]⟩,.str ⟨#[]⟩,.str ⟨#[]⟩,.str ⟨#[]⟩,.str ⟨#[]⟩,.str ⟨#[]⟩,.str ⟨#[]⟩,.str ⟨#[]⟩,.str ⟨#[]⟩,.str ⟨#[]⟩,.str ⟨#[]⟩,.str ⟨#[]⟩,.str ⟨#[]⟩,.str ⟨#[]⟩,.str ⟨#[]⟩]:=rfl
 have fX:=@hrp
 refine qag fn195 (by simp) ?_
 unfold i195
 simp only[argL]
 refine wR0 0 [0] fX ?_
 refine wRn 100 [2] fX ?_
 refine rG [(100,.live ⟨9,kwT⟩)] fX ?_
 refine⟨_,_,hk,fZx,rE fX ?_⟩
 refine wP ?_
 exact qac rfl
end
end Go.Proofs.YtkbjpglehdhjfaaGreatDoor
