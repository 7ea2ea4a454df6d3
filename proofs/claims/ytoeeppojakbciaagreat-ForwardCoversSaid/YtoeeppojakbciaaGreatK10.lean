/- Contracts of functions of the program, for all arguments that they name. -/
import Derived.Test.YtoeeppojakbciaaGreatK09
namespace Go.Proofs.YtoeeppojakbciaaGreat
set_option linter.unusedVariables false
section
open Go.RowKit
set_option maxHeartbeats 2000000
theorem TP.ofNil {P:Program}{f:FuncId}{xs ys:List T}{r:T}(h:TP P f ys r)(hz:FrzL (fun _=>.free) xs ys):TP P f xs r:=h.give hz
def ixF {α:Type}(p:α→Bool):List α→Int→Int
 | [],_ => -1
 | k::ks,i=>if p k=true then i else ixF p ks (i+1)
theorem ql7 {α:Type}(p:α→Bool):∀(ks:List α) (i:Int),0≤i→decide (ixF p ks i≥0)=ks.any p
 | [],i,_=>rfl
 | k::ks,i,hi=>by
  by_cases hp:p k=true
  ·simp only[ixF,List.any_cons,hp,Bool.true_or];exact decide_eq_true hi
  ·simp only[ixF,List.any_cons,Bool.eq_false_iff.2 hp,Bool.false_or];exact ql7 p ks (i+1) (by omega)
def encI (n:Int):T:=.int .i64 n
theorem qqY (f:FuncId)(caps:List T)(hcaps:clL (fun _=>false) caps=true)(p:Int→Bool)(xs:List Int)(hl:xs.length≤1000000)(Q:IExit→(Nat→T)→Heap→Prop):∀(rest pre:List Int) (i:Nat),xs=pre++rest→pre.length=i→
 (∀k∈rest,TP Tryz.prog f ([encI k]++caps) (.bool (p k)))→
 (ixF p rest i = -1→∀i:Int,Q (.exit 0) (ofL [(0,.list (qac xs)),(1,.fn f caps),(7,.int .i64 (qac xs).length),(8,.int .i64 i),(9,.bool false)]) (hpL []))→
 (ixF p rest i ≠ -1→Q .ret (ofL [(4,.int .i64 (ixF p rest i))]) (hpL []))→
 WL Tryz.prog 19 qiw (ofL [(0,.list (qac xs)),(1,.fn f caps),(7,.int .i64 (qac xs).length),(8,.int .i64 i)]) (hpL []) Q:=by
 intro rest
 induction rest with
 | nil=>
  intro pre i he hn hk hQ0 hQ1
  have hd:decide ((i:Int)<((qac xs).length:Int))=false:=by simp[qad,he,hn]
  have fX:=@hd
  refine qaa qiw.eq_1 ?_
  refine wR0 200 [0,1,7,8,9] fX ?_
  refine wF @hd ?_
  refine wX ?_
  refine wN ?_
  exact hQ0 rfl _
 | cons k rest ih=>
  intro pre i he hn hk hQ0 hQ1
  skip
  have hlt:(i:Int)<((qac xs).length:Int):=by simp[qad,he];omega
  have hlb:i≤1000000:=by rw[he] at hl;simp at hl;omega
  have hd:decide ((i:Int)<((qac xs).length:Int))=true:=decide_eq_true hlt
  have hg:(qac xs).getD (i:Int).toNat .undef=.int .i64 k:=by rw[Int.toNat_natCast,he,←hn];exact qci _ k _
  have hw:IntKind.wrap .i64 ((i:Int)+1)=(i:Int)+1:=wrap64 (by omega) (by omega)
  have fX:=(cJ3 @hd @hg @hw)
  refine qaa qiw.eq_1 ?_
  refine wR0 200 [0,1,7,8,9] fX ?_
  refine wT @hd ?_
  refine wR0 300 [0,1,5,7,8] fX ?_
  refine wRn 400 [0,1,5,7,8,16] fX ?_
  refine rCv fX ?_
  refine⟨_,hk k (List.mem_cons_self ..),rE fX ?_⟩
  refine wS cJ0 (fun hc400=>?_) (fun hc400=>?_)
  ·skip
   refine wR0 500 [4] fX ?_
   refine wE ?_
   refine wN ?_
   have e:ixF p (k::rest) i=i:=(by simp[ixF,hc400])
   rw[e] at hQ1
   exact hQ1 (by omega)
  ·skip
   refine wR0 600 [0,1,7,8] fX ?_
   refine wN ?_
   have e:ixF p (k::rest) i=ixF p rest ((i+1:Nat):Int):=(by simp[ixF,hc400])
   rw[e] at hQ0 hQ1
   have:=ih (pre++[k]) (i+1) (by simp[he]) (by simp;omega) (fun k' hk'=>hk k' (List.mem_cons_of_mem _ hk')) hQ0 hQ1
   simpa using this
theorem ixI_tp (f:FuncId)(caps:List T)(hcaps:clL (fun _=>false) caps=true)(p:Int→Bool)(xs:List Int)(hl:xs.length≤1000000)(hk:∀k∈xs,TP Tryz.prog f ([encI k]++caps) (.bool (p k))):TP Tryz.prog 157 [.list (qac xs),.fn f caps] (.int .i64 (ixF p xs 0)):=by
 refine qah fn157 (by simp) ?_
 unfold i157
 simp only[argL]
 refine wR0 0 [0,1] cJ0 ?_
 refine wR0 100 [0,1,7,8] cJ0 ?_
 refine wL ?_
 refine qqY f caps hcaps p xs hl _ xs [] 0 rfl rfl hk ?_ ?_
 ·intro h i
  refine wN ?_
  refine wR0 700 [4] cJ0 ?_
  refine wP ?_
  exact qaE h.symm
 ·intro h
  refine wN ?_
  exact⟨by simp,_,rfl,by exact .same rfl⟩
theorem qjd (f:FuncId)(caps:List T)(hcaps:clL (fun _=>false) caps=true)(p:Int→Bool)(xs:List Int)(hl:xs.length≤1000000)(hk:∀k∈xs,TP Tryz.prog f ([encI k]++caps) (.bool (p k))):TP Tryz.prog 105 [.list (qac xs),.fn f caps] (.bool (xs.any p)):=by
 have hfr:froL [.list (qac xs),.fn f caps]=true:=by simp[froL,clL,T.cl,hcaps,qae]
 refine qah fn105 (by simp) ?_
 unfold i105
 simp only[argL]
 refine wR0 0 [0,1] cJ0 ?_
 refine wRn 100 [4] cJ0 ?_
 refine rC cJ0 ?_
 refine⟨_,ixI_tp f caps hcaps p xs hl hk,rE cJ0 ?_⟩
 refine wP ?_
 exact qab (ql7 p xs 0 (by omega))
theorem qoS (f:FuncId)(caps:List T)(hcaps:clL (fun _=>false) caps=true)(p:Ty→Bool)(xs:List Ty)(hl:xs.length≤1000000)(Q:IExit→(Nat→T)→Heap→Prop):∀(rest pre:List Ty) (i:Nat),xs=pre++rest→pre.length=i→
 (∀k∈rest,TP Tryz.prog f ([qax k]++caps) (.bool (p k)))→
 (ixF p rest i = -1→∀i:Int,Q (.exit 0) (ofL [(0,.list (qaj xs)),(1,.fn f caps),(7,.int .i64 (qaj xs).length),(8,.int .i64 i),(9,.bool false)]) (hpL []))→
 (ixF p rest i ≠ -1→Q .ret (ofL [(4,.int .i64 (ixF p rest i))]) (hpL []))→
 WL Tryz.prog 19 qiK (ofL [(0,.list (qaj xs)),(1,.fn f caps),(7,.int .i64 (qaj xs).length),(8,.int .i64 i)]) (hpL []) Q:=by
 intro rest
 induction rest with
 | nil=>
  intro pre i he hn hk hQ0 hQ1
  have hd:decide ((i:Int)<((qaj xs).length:Int))=false:=by simp[qao,he,hn]
  have fX:=@hd
  refine qaa qiK.eq_1 ?_
  refine wR0 200 [0,1,7,8,9] fX ?_
  refine wF @hd ?_
  refine wX ?_
  refine wN ?_
  exact hQ0 rfl _
 | cons k rest ih=>
  intro pre i he hn hk hQ0 hQ1
  rcases k with⟨tk,tsz,trs,tps⟩
  have hlt:(i:Int)<((qaj xs).length:Int):=by simp[qao,he];omega
  have hlb:i≤1000000:=by rw[he] at hl;simp at hl;omega
  have hd:decide ((i:Int)<((qaj xs).length:Int))=true:=decide_eq_true hlt
  have hg:(qaj xs).getD (i:Int).toNat .undef=.agg [.int .i64 tk,.int .i64 tsz,.list (qac trs),.list (qaj tps)]:=by rw[Int.toNat_natCast,he,←hn];exact qdZ _ (.mk tk tsz trs tps) _
  have hw:IntKind.wrap .i64 ((i:Int)+1)=(i:Int)+1:=wrap64 (by omega) (by omega)
  have fX:=(cJ3 @hd @hg @hw)
  refine qaa qiK.eq_1 ?_
  refine wR0 200 [0,1,7,8,9] fX ?_
  refine wT @hd ?_
  refine wR0 300 [0,1,5,7,8] fX ?_
  refine wRn 400 [0,1,5,7,8,16] fX ?_
  refine rCv fX ?_
  refine⟨_,hk (.mk tk tsz trs tps) (List.mem_cons_self ..),rE fX ?_⟩
  refine wS cJ0 (fun hc400=>?_) (fun hc400=>?_)
  ·skip
   refine wR0 500 [4] fX ?_
   refine wE ?_
   refine wN ?_
   have e:ixF p ((.mk tk tsz trs tps)::rest) i=i:=(by simp[ixF,hc400])
   rw[e] at hQ1
   exact hQ1 (by omega)
  ·skip
   refine wR0 600 [0,1,7,8] fX ?_
   refine wN ?_
   have e:ixF p ((.mk tk tsz trs tps)::rest) i=ixF p rest ((i+1:Nat):Int):=(by simp[ixF,hc400])
   rw[e] at hQ0 hQ1
   have:=ih (pre++[(.mk tk tsz trs tps)]) (i+1) (by simp[he]) (by simp;omega) (fun k' hk'=>hk k' (List.mem_cons_of_mem _ hk')) hQ0 hQ1
   simpa using this
theorem qtr (f:FuncId)(caps:List T)(hcaps:clL (fun _=>false) caps=true)(p:Ty→Bool)(xs:List Ty)(hl:xs.length≤1000000)(hk:∀k∈xs,TP Tryz.prog f ([qax k]++caps) (.bool (p k))):TP Tryz.prog 216 [.list (qaj xs),.fn f caps] (.int .i64 (ixF p xs 0)):=by
 refine qah fn216 (by simp) ?_
 unfold i216
 simp only[argL]
 refine wR0 0 [0,1] cJ0 ?_
 refine wR0 100 [0,1,7,8] cJ0 ?_
 refine wL ?_
 refine qoS f caps hcaps p xs hl _ xs [] 0 rfl rfl hk ?_ ?_
 ·intro h i
  refine wN ?_
  refine wR0 700 [4] cJ0 ?_
  refine wP ?_
  exact qaE h.symm
 ·intro h
  refine wN ?_
  exact⟨by simp,_,rfl,by exact .same rfl⟩
theorem qsM (f:FuncId)(caps:List T)(hcaps:clL (fun _=>false) caps=true)(p:Ty→Bool)(xs:List Ty)(hl:xs.length≤1000000)(hk:∀k∈xs,TP Tryz.prog f ([qax k]++caps) (.bool (p k))):TP Tryz.prog 208 [.list (qaj xs),.fn f caps] (.bool (xs.any p)):=by
 have hfr:froL [.list (qaj xs),.fn f caps]=true:=by simp[froL,clL,T.cl,hcaps,qeO]
 refine qah fn208 (by simp) ?_
 unfold i208
 simp only[argL]
 refine wR0 0 [0,1] cJ0 ?_
 refine wRn 100 [4] cJ0 ?_
 refine rC cJ0 ?_
 refine⟨_,qtr f caps hcaps p xs hl hk,rE cJ0 ?_⟩
 refine wP ?_
 exact qab (ql7 p xs 0 (by omega))
theorem qk1 (x:Int):TP Tryz.prog 217 [.int .i64 x] (.bool (qdL x)):=by
 refine qah fn217 (by simp) ?_
 unfold i217
 simp only[argL]
 refine wR0 0 [0] cJ0 ?_
 refine wR0 100 [2] cJ0 ?_
 refine wP ?_
 exact qab rfl
theorem qnl (xs:List Int)(hl:xs.length≤1000000):TP Tryz.prog 214 [.list (qac xs)] (.bool (qds xs)):=by
 refine qah fn214 (by simp) ?_
 unfold i214
 simp only[argL]
 refine wR0 0 [0] cJ0 ?_
 refine wRn 100 [2] cJ0 ?_
 refine rCi cJ0 ?_
 refine⟨_,fun hw=>qjd 217 [] rfl qdL xs hl (fun k hk=>qk1 k),rE cJ0 ?_⟩
 refine wP ?_
 exact qab (by simp only[qds,qad];rw[Bool.and_comm])
theorem qnm (rs:List Int)(x:Int):TP Tryz.prog 215 [.int .i64 x,.ptr [.list (qac rs)]] (.bool (decide (x<0) || decide (x≥(rs.length:Int)))):=by
 refine qah fn215 (by simp) ?_
 unfold i215
 simp only[argL]
 refine wR0 0 [0,1] cJ0 ?_
 refine wR0 100 [3] cJ0 ?_
 refine wP ?_
 exact qab (by simp only[qad])
def qpl (rs w:List Int):Bool:=qds rs&&decide ((w.length:Int)≤12)&&!w.any fun x=>decide (x<0) || decide (x≥(rs.length:Int))
theorem qpm (rs w:List Int)(hl:rs.length≤1000000)(hlw:w.length≤1000000):TP Tryz.prog 207 [.list (qac rs),.list (qac w)] (.bool (qpl rs w)):=by
 refine qah fn207 (by simp) ?_
 unfold i207
 simp only[argL]
 refine wR0 0 [1,2] cJ0 ?_
 refine wRn 100 [4] cJ0 ?_
 refine rC cJ0 ?_
 refine⟨_,qnl rs hl,rN cJ0 ?_⟩
 refine rLi [(0,.live ⟨27,[.list (qac rs)]⟩)] cJ0 ?_
 refine⟨_,_,fun hw=>qjd 215 [.ptr [.list (qac rs)]] (by simp[clL,T.cl]) (fun x=>decide (x<0) || decide (x≥(rs.length:Int))) w hlw (fun k hk=>qnm rs k),fZl,rfl,rE cJ0 ?_⟩
 refine wP ?_
 exact qab (by simp only[qpl,qad])
theorem qpt (k s d:Int)(rs:List Int)(ps:List Ty)(hd:0<d∧d≤1000)(h:TP Tryz.prog 198 [qax (.mk k s rs ps),.int .i64 (d - 1)] (.bool (qaC (.mk k s rs ps) (d - 1)))):TP Tryz.prog 209 [qax (.mk k s rs ps),.ptr [.int .i64 d]] (.bool (!qaC (.mk k s rs ps) (d - 1))):=by
 have hw:IntKind.wrap .i64 (d - 1)=d - 1:=wrap64 (by omega) (by omega)
 have fX:=@hw
 refine qah fn209 (by simp) ?_
 unfold i209
 simp only[argL,qax]
 refine wR0 0 [1,2] fX ?_
 refine wRn 100 [3] fX ?_
 refine rC fX ?_
 refine⟨_,h,rE fX ?_⟩
 refine wP ?_
 exact .same rfl
theorem qcU (d:Int):∀ps:List Ty,(!ps.any fun p=>!qaC p d)=qaY ps d
 | []=>rfl
 | p::ps=>by rw[qaY,←qcU d ps];simp
set_option maxHeartbeats 4000000 in
theorem qmv:∀(t:Ty) (d:Int),t.fit→0≤d→d≤1000→TP Tryz.prog 198 [qax t,.int .i64 d] (.bool (qaC t d))
 | .mk k s rs ps,d,ht,hd0,hd1=>by
  obtain⟨hf1,hf2,hf3⟩:=Ty.fit_all ht
  have tk:∀(c:Int),(k==c)=true→k=c:=fun c h=>by simpa using h
  have fk:∀(c:Int),(k==c)=false→k≠c:=fun c h=>by simpa using h
  have hcf:0<d→_:=fun hd=>qsM 209 [.ptr [.int .i64 d]] (by simp[clL,T.cl]) (fun p=>!qaC p (d - 1)) ps hf2 (fun p hp=>by
   have:=qmv p (d - 1) (hf3 p hp) (by omega) (by omega)
   rcases p with⟨pk,psz,prs,pps⟩
   exact qpt pk psz d prs pps ⟨hd,hd1⟩ this)
  by_cases hz:d=0
  ·have hd0:(d==0)=true:=by simp[hz]
   refine qah fn198 (by simp) ?_
   unfold i198
   simp only[argL,qax]
   refine wR0 0 [2,3] cJ0 ?_
   refine wR0 100 [2,3,18] @hd0 ?_
   refine wT cJ0 ?_
   refine wR0 200 [4] cJ0 ?_
   refine wP ?_
   exact qab (by simp[qaC,hz])
  have hd0:(d==0)=false:=by simp[hz]
  refine qah fn198 (by simp) ?_
  unfold i198
  simp only[argL,qax]
  refine wR0 0 [2,3] cJ0 ?_
  refine wR0 100 [2,3,18] @hd0 ?_
  refine wS cJ0 (fun hc100=>?_) (fun hc100=>?_)
  ·skip
   refine wR0 200 [4] cJ0 ?_
   refine wP ?_
   exact qab (by simp[qad] at hc100;rw[qaC,if_neg hz,if_pos hc100])
  ·skip
   refine wR0 300 [2,3,5] cJ0 ?_
   simp only[thn]
   have h0:d≠0∧¬(0<rs.length∧k≠7):=(by refine⟨hz,fun hh=>?_⟩;simp[qad] at hc100;exact hh.2 (hc100 hh.1))
   have e:=(show qaC (.mk k s rs ps) d=_ from by rw[qaC,if_neg h0.1,if_neg h0.2])
   refine wR0 400 [2,3,5,24] cJ0 ?_
   refine wR0 500 [2,3,5,24,25] cJ0 ?_
   refine wS cJ0 (fun hc500=>?_) (fun hc500=>?_)
   ·skip
    refine wR0 600 [4] cJ0 ?_
    refine wP ?_
    exact qab (by rw[e,if_pos (tk _ hc500)];simp[qao,Bool.and_comm])
   ·skip
    refine wR0 700 [2,3,5,24,33] cJ0 ?_
    refine wS cJ0 (fun hc700=>?_) (fun hc700=>?_)
    ·skip
     refine wT @hc700 ?_
     refine wR0 900 [4] cJ0 ?_
     refine wP ?_
     exact qab (by have k6:k=2∨k=6:=(by first | exact .inl (tk _ hc700) | exact .inr (tk _ hc800));rw[e,if_neg (fk _ hc500),if_pos k6,Bool.eq_iff_iff];simp[qao];exact⟨fun h=>⟨⟨h.1.2,h.2⟩,h.1.1⟩,fun h=>⟨⟨h.2,h.1.1⟩,h.1.2⟩⟩)
    ·skip
     refine wR0 800 [2,3,5,24,33] cJ0 ?_
     refine wS cJ0 (fun hc800=>?_) (fun hc800=>?_)
     ·skip
      refine wR0 900 [4] cJ0 ?_
      refine wP ?_
      exact qab (by have k6:k=2∨k=6:=(by first | exact .inl (tk _ hc700) | exact .inr (tk _ hc800));rw[e,if_neg (fk _ hc500),if_pos k6,Bool.eq_iff_iff];simp[qao];exact⟨fun h=>⟨⟨h.1.2,h.2⟩,h.1.1⟩,fun h=>⟨⟨h.2,h.1.1⟩,h.1.2⟩⟩)
     ·skip
      refine wR0 1000 [2,3,5,24,47] cJ0 ?_
      refine wS cJ0 (fun hc1000=>?_) (fun hc1000=>?_)
      ·skip
       refine wRn 1100 [4] cJ0 ?_
       refine rCi cJ0 ?_
       refine⟨_,fun hw=>TP.ofNil (qpm rs [] hf1 (by simp)) (by exact fZl),rE cJ0 ?_⟩
       refine wP ?_
       exact qab (by have k7:=tk _ hc1000;rw[e,if_neg (fk _ hc500),if_neg (by omega),if_pos k7];simp only[qao,qad,qpl,qds,List.any_nil,List.length_nil,Bool.not_false,Bool.and_true];generalize (!rs.any qdL)=q;rw[Bool.eq_iff_iff];cases q<;>simp[-List.length_eq_zero_iff]<;>omega)
      ·skip
       refine wR0 1200 [2,3,5,24,63] cJ0 ?_
       refine wS cJ0 (fun hc1200=>?_) (fun hc1200=>?_)
       ·skip
        refine wR0 1300 [2,3,76] cJ0 ?_
        refine wS cJ0 (fun hc1300=>?_) (fun hc1300=>?_)
        ·skip
         refine wR0 1400 [4] cJ0 ?_
         refine wP ?_
         exact qab (by have k3:=tk _ hc1200;simp[qao,-List.length_eq_zero_iff] at hc1300;have h3:((s==0)&&!decide ((ps.length:Int)<1)&&!decide ((ps.length:Int) > 8))=false:=(by rw[Bool.eq_false_iff];simp[-List.length_eq_zero_iff];omega);rw[e,if_neg (by omega),if_neg (by omega),if_neg (by omega),if_neg (by omega),if_pos k3,h3,Bool.false_and])
        ·skip
         refine wN ?_
         have e2:qaC (.mk k s rs ps) d=qaY ps (d - 1):=(by first | (have k3:=tk _ hc1200;simp[qao,-List.length_eq_zero_iff] at hc1300;have h3:((s==0)&&!decide ((ps.length:Int)<1)&&!decide ((ps.length:Int) > 8))=true:=(by simp[-List.length_eq_zero_iff];omega);rw[e,if_neg (by omega),if_neg (by omega),if_neg (by omega),if_neg (by omega),if_pos k3,h3,Bool.true_and]) | (have k4:k=4∨k=5:=(by first | exact .inl (tk _ hc1500) | exact .inr (tk _ hc1600));simp[qao] at hc1700;rw[e,if_neg (by omega),if_neg (by omega),if_neg (by omega),if_pos k4];simp[hc1700]))
         refine wRn 2000 [4] cJ0 ?_
         refine rL [(1,.live ⟨3,[.int .i64 d]⟩)] cJ0 ?_
         refine⟨_,_,hcf (by omega),fZl,rfl,rE cJ0 ?_⟩
         refine wP ?_
         exact qab (by rw[e2,qcU])
       ·skip
        refine wR0 1500 [2,3,24,77] cJ0 ?_
        refine wS cJ0 (fun hc1500=>?_) (fun hc1500=>?_)
        ·skip
         refine wT @hc1500 ?_
         refine wR0 1700 [2,3,88] cJ0 ?_
         refine wS cJ0 (fun hc1700=>?_) (fun hc1700=>?_)
         ·skip
          refine wR0 1800 [4] cJ0 ?_
          refine wP ?_
          exact qab (by have k4:k=4∨k=5:=(by first | exact .inl (tk _ hc1500) | exact .inr (tk _ hc1600));rw[e,if_neg (by omega),if_neg (by omega),if_neg (by omega),if_pos k4,Bool.eq_iff_iff];simp[qao] at hc1700;simp;omega)
         ·skip
          refine wN ?_
          have e2:qaC (.mk k s rs ps) d=qaY ps (d - 1):=(by first | (have k3:=tk _ hc1200;simp[qao,-List.length_eq_zero_iff] at hc1300;have h3:((s==0)&&!decide ((ps.length:Int)<1)&&!decide ((ps.length:Int) > 8))=true:=(by simp[-List.length_eq_zero_iff];omega);rw[e,if_neg (by omega),if_neg (by omega),if_neg (by omega),if_neg (by omega),if_pos k3,h3,Bool.true_and]) | (have k4:k=4∨k=5:=(by first | exact .inl (tk _ hc1500) | exact .inr (tk _ hc1600));simp[qao] at hc1700;rw[e,if_neg (by omega),if_neg (by omega),if_neg (by omega),if_pos k4];simp[hc1700]))
          refine wRn 2000 [4] cJ0 ?_
          refine rL [(1,.live ⟨3,[.int .i64 d]⟩)] cJ0 ?_
          refine⟨_,_,hcf (by omega),fZl,rfl,rE cJ0 ?_⟩
          refine wP ?_
          exact qab (by rw[e2,qcU])
        ·skip
         refine wR0 1600 [2,3,77] cJ0 ?_
         refine wS cJ0 (fun hc1600=>?_) (fun hc1600=>?_)
         ·skip
          refine wR0 1700 [2,3,88] cJ0 ?_
          refine wS cJ0 (fun hc1700=>?_) (fun hc1700=>?_)
          ·skip
           refine wR0 1800 [4] cJ0 ?_
           refine wP ?_
           exact qab (by have k4:k=4∨k=5:=(by first | exact .inl (tk _ hc1500) | exact .inr (tk _ hc1600));rw[e,if_neg (by omega),if_neg (by omega),if_neg (by omega),if_pos k4,Bool.eq_iff_iff];simp[qao] at hc1700;simp;omega)
          ·skip
           refine wN ?_
           have e2:qaC (.mk k s rs ps) d=qaY ps (d - 1):=(by first | (have k3:=tk _ hc1200;simp[qao,-List.length_eq_zero_iff] at hc1300;have h3:((s==0)&&!decide ((ps.length:Int)<1)&&!decide ((ps.length:Int) > 8))=true:=(by simp[-List.length_eq_zero_iff];omega);rw[e,if_neg (by omega),if_neg (by omega),if_neg (by omega),if_neg (by omega),if_pos k3,h3,Bool.true_and]) | (have k4:k=4∨k=5:=(by first | exact .inl (tk _ hc1500) | exact .inr (tk _ hc1600));simp[qao] at hc1700;rw[e,if_neg (by omega),if_neg (by omega),if_neg (by omega),if_pos k4];simp[hc1700]))
           refine wRn 2000 [4] cJ0 ?_
           refine rL [(1,.live ⟨3,[.int .i64 d]⟩)] cJ0 ?_
           refine⟨_,_,hcf (by omega),fZl,rfl,rE cJ0 ?_⟩
           refine wP ?_
           exact qab (by rw[e2,qcU])
         ·skip
          refine wR0 1900 [4] cJ0 ?_
          refine wP ?_
          exact qab (by rw[e,if_neg (fk _ hc500),if_neg (fun h=>h.elim (fk _ hc700) (fk _ hc800)),if_neg (fk _ hc1000),if_neg (fun h=>h.elim (fk _ hc1500) (fk _ hc1600)),if_neg (fk _ hc1200)])
termination_by t=>SizeOf.sizeOf t
decreasing_by exact qi3 hp k s rs
theorem qo5 (t:Ty)(ht:t.fit):TP Tryz.prog 185 [qax t] (.int .i64 (qb6 t)):=by
 rcases t with⟨k,s,rs,ps⟩
 refine qah fn185 (by simp) ?_
 unfold i185
 simp only[argL,qax]
 refine wR0 0 [1] cJ0 ?_
 refine wRn 100 [5] cJ0 ?_
 refine rC cJ0 ?_
 refine⟨_,qmv (.mk k s rs ps) 8 ht (by omega) (by omega),rE cJ0 ?_⟩
 refine wS cJ0 (fun hc100=>?_) (fun hc100=>?_)
 ·skip
  refine wR0 200 [2] cJ0 ?_
  refine wP ?_
  exact qaE (by simp at hc100;simp[qb6,hc100])
 ·skip
  refine wR0 300 [2] cJ0 ?_
  refine wP ?_
  exact qaE (by simp at hc100;simp[qb6,hc100])
theorem qrg (v:V):decide (qmk v≤128)=decide (qbN v 128≤128):=by
 rw[Bool.eq_iff_iff];simp only[decide_eq_true_eq];unfold qmk;split<;>omega
theorem qpc (t:Ty)(v:V)(ht:t.fit)(hv:v.fit):TP Tryz.prog 148 [qax t,encV v] (.bool (qdl t v)):=by
 rcases t with⟨k,s,rs,ps⟩
 rcases v with⟨n,ks⟩
 refine qah fn148 (by simp) ?_
 unfold i148
 simp only[argL,encV,qax]
 refine wR0 0 [2,3] cJ0 ?_
 refine wRn 100 [4] cJ0 ?_
 refine rC cJ0 ?_
 refine⟨_,qo5 (.mk k s rs ps) ht,rN cJ0 ?_⟩
 refine rCi cJ0 ?_
 refine⟨_,fun hw=>qrh (.mk n ks) hv,rN cJ0 ?_⟩
 refine rCi cJ0 ?_
 refine⟨_,fun hw=>qmi (.mk k s rs ps) (.mk n ks) 8 ht hv (by rw[←qje];simp at hw;simp[hw.1]),rE cJ0 ?_⟩
 refine wP ?_
 exact qab (by rw[qdl,←qrg])
end
end Go.Proofs.YtoeeppojakbciaaGreat
