/- Contracts of functions of the program, for all arguments that they name. -/
import Derived.Test.YtncpdpbpcnoeeaaGreatK06
namespace Go.Proofs.YtncpdpbpcnoeeaaGreat
set_option linter.unusedVariables false
section
open Go.RowKit
set_option maxHeartbeats 2000000
theorem TP.ofNil {P:Program}{f:FuncId}{xs ys:List T}{r:T}(h:TP P f ys r)(hz:FrzL (fun _=>.free) xs ys):TP P f xs r:=h.give hz
def ixF {α:Type}(p:α→Bool):List α→Int→Int
 | [],_ => -1
 | k::ks,i=>if p k=true then i else ixF p ks (i+1)
theorem qjF {α:Type}(p:α→Bool):∀(ks:List α) (i:Int),0≤i→decide (ixF p ks i≥0)=ks.any p
 | [],i,_=>rfl
 | k::ks,i,hi=>by
  by_cases hp:p k=true
  ·simp only[ixF,List.any_cons,hp,Bool.true_or];exact decide_eq_true hi
  ·simp only[ixF,List.any_cons,Bool.eq_false_iff.2 hp,Bool.false_or];exact qjF p ks (i+1) (by omega)
def encI (n:Int):T:=.int .i64 n
theorem qnV (f:FuncId)(caps:List T)(hcaps:clL (fun _=>false) caps=true)(p:Int→Bool)(xs:List Int)(hl:xs.length≤1000000)(Q:IExit→(Nat→T)→Heap→Prop):∀(rest pre:List Int) (i:Nat),xs=pre++rest→pre.length=i→
 (∀k∈rest,TP Tryz.prog f ([encI k]++caps) (.bool (p k)))→
 (ixF p rest i = -1→∀i:Int,Q (.exit 0) (ofL [(0,.list (qab xs)),(1,.fn f caps),(7,.int .i64 (qab xs).length),(8,.int .i64 i),(9,.bool false)]) (hpL []))→
 (ixF p rest i ≠ -1→Q .ret (ofL [(4,.int .i64 (ixF p rest i))]) (hpL []))→
 WL Tryz.prog 19 qgI (ofL [(0,.list (qab xs)),(1,.fn f caps),(7,.int .i64 (qab xs).length),(8,.int .i64 i)]) (hpL []) Q:=by
 intro rest
 induction rest with
 | nil=>
  intro pre i he hn hk hQ0 hQ1
  have hd:decide ((i:Int)<((qab xs).length:Int))=false:=by simp[qac,he,hn]
  have fX:=@hd
  refine qaa qgI.eq_1 ?_
  refine wR0 200 [0,1,7,8,9] fX ?_
  refine wF @hd ?_
  refine wX ?_
  refine wN ?_
  exact hQ0 rfl _
 | cons k rest ih=>
  intro pre i he hn hk hQ0 hQ1
  skip
  have hlt:(i:Int)<((qab xs).length:Int):=by simp[qac,he];omega
  have hlb:i≤1000000:=by rw[he] at hl;simp at hl;omega
  have hd:decide ((i:Int)<((qab xs).length:Int))=true:=decide_eq_true hlt
  have hg:(qab xs).getD (i:Int).toNat .undef=.int .i64 k:=by rw[Int.toNat_natCast,he,←hn];exact qc0 _ k _
  have hw:IntKind.wrap .i64 ((i:Int)+1)=(i:Int)+1:=wrap64 (by omega) (by omega)
  have fX:=(cJ3 @hd @hg @hw)
  refine qaa qgI.eq_1 ?_
  refine wR0 200 [0,1,7,8,9] fX ?_
  refine wT @hd ?_
  refine wR0 300 [0,1,5,7,8] fX ?_
  refine wRn 400 [0,1,5,7,8,16] fX ?_
  refine rCv fX ?_
  refine⟨_,hk k (List.mem_cons_self ..),rE fX ?_⟩
  refine wS cJ0 (fun hc400=>?_) (fun hc400=>?_)
  ·skip
   refine wR0 500 [4] fX ?_
   refine wE ?_
   refine wN ?_
   have e:ixF p (k::rest) i=i:=(by simp[ixF,hc400])
   rw[e] at hQ1
   exact hQ1 (by omega)
  ·skip
   refine wR0 600 [0,1,7,8] fX ?_
   refine wN ?_
   have e:ixF p (k::rest) i=ixF p rest ((i+1:Nat):Int):=(by simp[ixF,hc400])
   rw[e] at hQ0 hQ1
   have:=ih (pre++[k]) (i+1) (by simp[he]) (by simp;omega) (fun k' hk'=>hk k' (List.mem_cons_of_mem _ hk')) hQ0 hQ1
   simpa using this
theorem ixI_tp (f:FuncId)(caps:List T)(hcaps:clL (fun _=>false) caps=true)(p:Int→Bool)(xs:List Int)(hl:xs.length≤1000000)(hk:∀k∈xs,TP Tryz.prog f ([encI k]++caps) (.bool (p k))):TP Tryz.prog 158 [.list (qab xs),.fn f caps] (.int .i64 (ixF p xs 0)):=by
 refine qai fn158 (by simp) ?_
 unfold i158
 simp only[argL]
 refine wR0 0 [0,1] cJ0 ?_
 refine wR0 100 [0,1,7,8] cJ0 ?_
 refine wL ?_
 refine qnV f caps hcaps p xs hl _ xs [] 0 rfl rfl hk ?_ ?_
 ·intro h i
  refine wN ?_
  refine wR0 700 [4] cJ0 ?_
  refine wP ?_
  exact qaB h.symm
 ·intro h
  refine wN ?_
  exact⟨by simp,_,rfl,by exact .same rfl⟩
theorem qhj (f:FuncId)(caps:List T)(hcaps:clL (fun _=>false) caps=true)(p:Int→Bool)(xs:List Int)(hl:xs.length≤1000000)(hk:∀k∈xs,TP Tryz.prog f ([encI k]++caps) (.bool (p k))):TP Tryz.prog 106 [.list (qab xs),.fn f caps] (.bool (xs.any p)):=by
 have hfr:froL [.list (qab xs),.fn f caps]=true:=by simp[froL,clL,T.cl,hcaps,qae]
 refine qai fn106 (by simp) ?_
 unfold i106
 simp only[argL]
 refine wR0 0 [0,1] cJ0 ?_
 refine wRn 100 [4] cJ0 ?_
 refine rC cJ0 ?_
 refine⟨_,ixI_tp f caps hcaps p xs hl hk,rE cJ0 ?_⟩
 refine wP ?_
 exact qad (qjF p xs 0 (by omega))
theorem ql6 (f:FuncId)(caps:List T)(hcaps:clL (fun _=>false) caps=true)(p:Ty→Bool)(xs:List Ty)(hl:xs.length≤1000000)(Q:IExit→(Nat→T)→Heap→Prop):∀(rest pre:List Ty) (i:Nat),xs=pre++rest→pre.length=i→
 (∀k∈rest,TP Tryz.prog f ([qaw k]++caps) (.bool (p k)))→
 (ixF p rest i = -1→∀i:Int,Q (.exit 0) (ofL [(0,.list (qal xs)),(1,.fn f caps),(7,.int .i64 (qal xs).length),(8,.int .i64 i),(9,.bool false)]) (hpL []))→
 (ixF p rest i ≠ -1→Q .ret (ofL [(4,.int .i64 (ixF p rest i))]) (hpL []))→
 WL Tryz.prog 19 qgQ (ofL [(0,.list (qal xs)),(1,.fn f caps),(7,.int .i64 (qal xs).length),(8,.int .i64 i)]) (hpL []) Q:=by
 intro rest
 induction rest with
 | nil=>
  intro pre i he hn hk hQ0 hQ1
  have hd:decide ((i:Int)<((qal xs).length:Int))=false:=by simp[qav,he,hn]
  have fX:=@hd
  refine qaa qgQ.eq_1 ?_
  refine wR0 200 [0,1,7,8,9] fX ?_
  refine wF @hd ?_
  refine wX ?_
  refine wN ?_
  exact hQ0 rfl _
 | cons k rest ih=>
  intro pre i he hn hk hQ0 hQ1
  rcases k with⟨tk,tsz,trs,tps⟩
  have hlt:(i:Int)<((qal xs).length:Int):=by simp[qav,he];omega
  have hlb:i≤1000000:=by rw[he] at hl;simp at hl;omega
  have hd:decide ((i:Int)<((qal xs).length:Int))=true:=decide_eq_true hlt
  have hg:(qal xs).getD (i:Int).toNat .undef=.agg [.int .i64 tk,.int .i64 tsz,.list (qab trs),.list (qal tps)]:=by rw[Int.toNat_natCast,he,←hn];exact qf4 _ (.mk tk tsz trs tps) _
  have hw:IntKind.wrap .i64 ((i:Int)+1)=(i:Int)+1:=wrap64 (by omega) (by omega)
  have fX:=(cJ3 @hd @hg @hw)
  refine qaa qgQ.eq_1 ?_
  refine wR0 200 [0,1,7,8,9] fX ?_
  refine wT @hd ?_
  refine wR0 300 [0,1,5,7,8] fX ?_
  refine wRn 400 [0,1,5,7,8,16] fX ?_
  refine rCv fX ?_
  refine⟨_,hk (.mk tk tsz trs tps) (List.mem_cons_self ..),rE fX ?_⟩
  refine wS cJ0 (fun hc400=>?_) (fun hc400=>?_)
  ·skip
   refine wR0 500 [4] fX ?_
   refine wE ?_
   refine wN ?_
   have e:ixF p ((.mk tk tsz trs tps)::rest) i=i:=(by simp[ixF,hc400])
   rw[e] at hQ1
   exact hQ1 (by omega)
  ·skip
   refine wR0 600 [0,1,7,8] fX ?_
   refine wN ?_
   have e:ixF p ((.mk tk tsz trs tps)::rest) i=ixF p rest ((i+1:Nat):Int):=(by simp[ixF,hc400])
   rw[e] at hQ0 hQ1
   have:=ih (pre++[(.mk tk tsz trs tps)]) (i+1) (by simp[he]) (by simp;omega) (fun k' hk'=>hk k' (List.mem_cons_of_mem _ hk')) hQ0 hQ1
   simpa using this
theorem qp7 (f:FuncId)(caps:List T)(hcaps:clL (fun _=>false) caps=true)(p:Ty→Bool)(xs:List Ty)(hl:xs.length≤1000000)(hk:∀k∈xs,TP Tryz.prog f ([qaw k]++caps) (.bool (p k))):TP Tryz.prog 217 [.list (qal xs),.fn f caps] (.int .i64 (ixF p xs 0)):=by
 refine qai fn217 (by simp) ?_
 unfold i217
 simp only[argL]
 refine wR0 0 [0,1] cJ0 ?_
 refine wR0 100 [0,1,7,8] cJ0 ?_
 refine wL ?_
 refine ql6 f caps hcaps p xs hl _ xs [] 0 rfl rfl hk ?_ ?_
 ·intro h i
  refine wN ?_
  refine wR0 700 [4] cJ0 ?_
  refine wP ?_
  exact qaB h.symm
 ·intro h
  refine wN ?_
  exact⟨by simp,_,rfl,by exact .same rfl⟩
theorem qpr (f:FuncId)(caps:List T)(hcaps:clL (fun _=>false) caps=true)(p:Ty→Bool)(xs:List Ty)(hl:xs.length≤1000000)(hk:∀k∈xs,TP Tryz.prog f ([qaw k]++caps) (.bool (p k))):TP Tryz.prog 209 [.list (qal xs),.fn f caps] (.bool (xs.any p)):=by
 have hfr:froL [.list (qal xs),.fn f caps]=true:=by simp[froL,clL,T.cl,hcaps,qdQ]
 refine qai fn209 (by simp) ?_
 unfold i209
 simp only[argL]
 refine wR0 0 [0,1] cJ0 ?_
 refine wRn 100 [4] cJ0 ?_
 refine rC cJ0 ?_
 refine⟨_,qp7 f caps hcaps p xs hl hk,rE cJ0 ?_⟩
 refine wP ?_
 exact qad (qjF p xs 0 (by omega))
theorem qiP (x:Int):TP Tryz.prog 218 [.int .i64 x] (.bool (qg0 x)):=by
 refine qai fn218 (by simp) ?_
 unfold i218
 simp only[argL]
 refine wR0 0 [0] cJ0 ?_
 refine wR0 100 [2] cJ0 ?_
 refine wP ?_
 exact qad rfl
theorem qkE (xs:List Int)(hl:xs.length≤1000000):TP Tryz.prog 215 [.list (qab xs)] (.bool (qfG xs)):=by
 refine qai fn215 (by simp) ?_
 unfold i215
 simp only[argL]
 refine wR0 0 [0] cJ0 ?_
 refine wRn 100 [2] cJ0 ?_
 refine rCi cJ0 ?_
 refine⟨_,fun hw=>qhj 218 [] rfl qg0 xs hl (fun k hk=>qiP k),rE cJ0 ?_⟩
 refine wP ?_
 exact qad (by simp only[qfG,qac];rw[Bool.and_comm])
theorem qkF (rs:List Int)(x:Int):TP Tryz.prog 216 [.int .i64 x,.ptr [.list (qab rs)]] (.bool (decide (x<0) || decide (x≥(rs.length:Int)))):=by
 refine qai fn216 (by simp) ?_
 unfold i216
 simp only[argL]
 refine wR0 0 [0,1] cJ0 ?_
 refine wR0 100 [3] cJ0 ?_
 refine wP ?_
 exact qad (by simp only[qac])
def qmz (rs w:List Int):Bool:=qfG rs&&decide ((w.length:Int)≤12)&&!w.any fun x=>decide (x<0) || decide (x≥(rs.length:Int))
theorem qmA (rs w:List Int)(hl:rs.length≤1000000)(hlw:w.length≤1000000):TP Tryz.prog 208 [.list (qab rs),.list (qab w)] (.bool (qmz rs w)):=by
 refine qai fn208 (by simp) ?_
 unfold i208
 simp only[argL]
 refine wR0 0 [1,2] cJ0 ?_
 refine wRn 100 [4] cJ0 ?_
 refine rC cJ0 ?_
 refine⟨_,qkE rs hl,rN cJ0 ?_⟩
 refine rLi [(0,.live ⟨27,[.list (qab rs)]⟩)] cJ0 ?_
 refine⟨_,_,fun hw=>qhj 216 [.ptr [.list (qab rs)]] (by simp[clL,T.cl]) (fun x=>decide (x<0) || decide (x≥(rs.length:Int))) w hlw (fun k hk=>qkF rs k),fZl,rfl,rE cJ0 ?_⟩
 refine wP ?_
 exact qad (by simp only[qmz,qac])
theorem qmI (k s d:Int)(rs:List Int)(ps:List Ty)(hd:0<d∧d≤1000)(h:TP Tryz.prog 199 [qaw (.mk k s rs ps),.int .i64 (d - 1)] (.bool (qaJ (.mk k s rs ps) (d - 1)))):TP Tryz.prog 210 [qaw (.mk k s rs ps),.ptr [.int .i64 d]] (.bool (!qaJ (.mk k s rs ps) (d - 1))):=by
 have hw:IntKind.wrap .i64 (d - 1)=d - 1:=wrap64 (by omega) (by omega)
 have fX:=@hw
 refine qai fn210 (by simp) ?_
 unfold i210
 simp only[argL,qaw]
 refine wR0 0 [1,2] fX ?_
 refine wRn 100 [3] fX ?_
 refine rC fX ?_
 refine⟨_,h,rE fX ?_⟩
 refine wP ?_
 exact .same rfl
theorem qcg (d:Int):∀ps:List Ty,(!ps.any fun p=>!qaJ p d)=qa9 ps d
 | []=>rfl
 | p::ps=>by rw[qa9,←qcg d ps];simp
set_option maxHeartbeats 4000000 in
theorem qj1:∀(t:Ty) (d:Int),t.fit→0≤d→d≤1000→TP Tryz.prog 199 [qaw t,.int .i64 d] (.bool (qaJ t d))
 | .mk k s rs ps,d,ht,hd0,hd1=>by
  obtain⟨hf1,hf2,hf3⟩:=Ty.fit_all ht
  have tk:∀(c:Int),(k==c)=true→k=c:=fun c h=>by simpa using h
  have fk:∀(c:Int),(k==c)=false→k≠c:=fun c h=>by simpa using h
  have hcf:0<d→_:=fun hd=>qpr 210 [.ptr [.int .i64 d]] (by simp[clL,T.cl]) (fun p=>!qaJ p (d - 1)) ps hf2 (fun p hp=>by
   have:=qj1 p (d - 1) (hf3 p hp) (by omega) (by omega)
   rcases p with⟨pk,psz,prs,pps⟩
   exact qmI pk psz d prs pps ⟨hd,hd1⟩ this)
  by_cases hz:d=0
  ·have hd0:(d==0)=true:=by simp[hz]
   refine qai fn199 (by simp) ?_
   unfold i199
   simp only[argL,qaw]
   refine wR0 0 [2,3] cJ0 ?_
   refine wR0 100 [2,3,18] @hd0 ?_
   refine wT cJ0 ?_
   refine wR0 200 [4] cJ0 ?_
   refine wP ?_
   exact qad (by simp[qaJ,hz])
  have hd0:(d==0)=false:=by simp[hz]
  refine qai fn199 (by simp) ?_
  unfold i199
  simp only[argL,qaw]
  refine wR0 0 [2,3] cJ0 ?_
  refine wR0 100 [2,3,18] @hd0 ?_
  refine wS cJ0 (fun hc100=>?_) (fun hc100=>?_)
  ·skip
   refine wR0 200 [4] cJ0 ?_
   refine wP ?_
   exact qad (by simp[qac] at hc100;rw[qaJ,if_neg hz,if_pos hc100])
  ·skip
   refine wR0 300 [2,3,5] cJ0 ?_
   simp only[thn]
   have h0:d≠0∧¬(0<rs.length∧k≠7):=(by refine⟨hz,fun hh=>?_⟩;simp[qac] at hc100;exact hh.2 (hc100 hh.1))
   have e:=(show qaJ (.mk k s rs ps) d=_ from by rw[qaJ,if_neg h0.1,if_neg h0.2])
   refine wR0 400 [2,3,5,24] cJ0 ?_
   refine wR0 500 [2,3,5,24,25] cJ0 ?_
   refine wS cJ0 (fun hc500=>?_) (fun hc500=>?_)
   ·skip
    refine wR0 600 [4] cJ0 ?_
    refine wP ?_
    exact qad (by rw[e,if_pos (tk _ hc500)];simp[qav,Bool.and_comm])
   ·skip
    refine wR0 700 [2,3,5,24,33] cJ0 ?_
    refine wS cJ0 (fun hc700=>?_) (fun hc700=>?_)
    ·skip
     refine wT @hc700 ?_
     refine wR0 900 [4] cJ0 ?_
     refine wP ?_
     exact qad (by have k6:k=2∨k=6:=(by first | exact .inl (tk _ hc700) | exact .inr (tk _ hc800));rw[e,if_neg (fk _ hc500),if_pos k6,Bool.eq_iff_iff];simp[qav];exact⟨fun h=>⟨⟨h.1.2,h.2⟩,h.1.1⟩,fun h=>⟨⟨h.2,h.1.1⟩,h.1.2⟩⟩)
    ·skip
     refine wR0 800 [2,3,5,24,33] cJ0 ?_
     refine wS cJ0 (fun hc800=>?_) (fun hc800=>?_)
     ·skip
      refine wR0 900 [4] cJ0 ?_
      refine wP ?_
      exact qad (by have k6:k=2∨k=6:=(by first | exact .inl (tk _ hc700) | exact .inr (tk _ hc800));rw[e,if_neg (fk _ hc500),if_pos k6,Bool.eq_iff_iff];simp[qav];exact⟨fun h=>⟨⟨h.1.2,h.2⟩,h.1.1⟩,fun h=>⟨⟨h.2,h.1.1⟩,h.1.2⟩⟩)
     ·skip
      refine wR0 1000 [2,3,5,24,47] cJ0 ?_
      refine wS cJ0 (fun hc1000=>?_) (fun hc1000=>?_)
      ·skip
       refine wRn 1100 [4] cJ0 ?_
       refine rCi cJ0 ?_
       refine⟨_,fun hw=>TP.ofNil (qmA rs [] hf1 (by simp)) (by exact fZl),rE cJ0 ?_⟩
       refine wP ?_
       exact qad (by have k7:=tk _ hc1000;rw[e,if_neg (fk _ hc500),if_neg (by omega),if_pos k7];simp only[qav,qac,qmz,qfG,List.any_nil,List.length_nil,Bool.not_false,Bool.and_true];generalize (!rs.any qg0)=q;rw[Bool.eq_iff_iff];cases q<;>simp[-List.length_eq_zero_iff]<;>omega)
      ·skip
       refine wR0 1200 [2,3,5,24,63] cJ0 ?_
       refine wS cJ0 (fun hc1200=>?_) (fun hc1200=>?_)
       ·skip
        refine wR0 1300 [2,3,76] cJ0 ?_
        refine wS cJ0 (fun hc1300=>?_) (fun hc1300=>?_)
        ·skip
         refine wR0 1400 [4] cJ0 ?_
         refine wP ?_
         exact qad (by have k3:=tk _ hc1200;simp[qav,-List.length_eq_zero_iff] at hc1300;have h3:((s==0)&&!decide ((ps.length:Int)<1)&&!decide ((ps.length:Int) > 8))=false:=(by rw[Bool.eq_false_iff];simp[-List.length_eq_zero_iff];omega);rw[e,if_neg (by omega),if_neg (by omega),if_neg (by omega),if_neg (by omega),if_pos k3,h3,Bool.false_and])
        ·skip
         refine wN ?_
         have e2:qaJ (.mk k s rs ps) d=qa9 ps (d - 1):=(by first | (have k3:=tk _ hc1200;simp[qav,-List.length_eq_zero_iff] at hc1300;have h3:((s==0)&&!decide ((ps.length:Int)<1)&&!decide ((ps.length:Int) > 8))=true:=(by simp[-List.length_eq_zero_iff];omega);rw[e,if_neg (by omega),if_neg (by omega),if_neg (by omega),if_neg (by omega),if_pos k3,h3,Bool.true_and]) | (have k4:k=4∨k=5:=(by first | exact .inl (tk _ hc1500) | exact .inr (tk _ hc1600));simp[qav] at hc1700;rw[e,if_neg (by omega),if_neg (by omega),if_neg (by omega),if_pos k4];simp[hc1700]))
         refine wRn 2000 [4] cJ0 ?_
         refine rL [(1,.live ⟨3,[.int .i64 d]⟩)] cJ0 ?_
         refine⟨_,_,hcf (by omega),fZl,rfl,rE cJ0 ?_⟩
         refine wP ?_
         exact qad (by rw[e2,qcg])
       ·skip
        refine wR0 1500 [2,3,24,77] cJ0 ?_
        refine wS cJ0 (fun hc1500=>?_) (fun hc1500=>?_)
        ·skip
         refine wT @hc1500 ?_
         refine wR0 1700 [2,3,88] cJ0 ?_
         refine wS cJ0 (fun hc1700=>?_) (fun hc1700=>?_)
         ·skip
          refine wR0 1800 [4] cJ0 ?_
          refine wP ?_
          exact qad (by have k4:k=4∨k=5:=(by first | exact .inl (tk _ hc1500) | exact .inr (tk _ hc1600));rw[e,if_neg (by omega),if_neg (by omega),if_neg (by omega),if_pos k4,Bool.eq_iff_iff];simp[qav] at hc1700;simp;omega)
         ·skip
          refine wN ?_
          have e2:qaJ (.mk k s rs ps) d=qa9 ps (d - 1):=(by first | (have k3:=tk _ hc1200;simp[qav,-List.length_eq_zero_iff] at hc1300;have h3:((s==0)&&!decide ((ps.length:Int)<1)&&!decide ((ps.length:Int) > 8))=true:=(by simp[-List.length_eq_zero_iff];omega);rw[e,if_neg (by omega),if_neg (by omega),if_neg (by omega),if_neg (by omega),if_pos k3,h3,Bool.true_and]) | (have k4:k=4∨k=5:=(by first | exact .inl (tk _ hc1500) | exact .inr (tk _ hc1600));simp[qav] at hc1700;rw[e,if_neg (by omega),if_neg (by omega),if_neg (by omega),if_pos k4];simp[hc1700]))
          refine wRn 2000 [4] cJ0 ?_
          refine rL [(1,.live ⟨3,[.int .i64 d]⟩)] cJ0 ?_
          refine⟨_,_,hcf (by omega),fZl,rfl,rE cJ0 ?_⟩
          refine wP ?_
          exact qad (by rw[e2,qcg])
        ·skip
         refine wR0 1600 [2,3,77] cJ0 ?_
         refine wS cJ0 (fun hc1600=>?_) (fun hc1600=>?_)
         ·skip
          refine wR0 1700 [2,3,88] cJ0 ?_
          refine wS cJ0 (fun hc1700=>?_) (fun hc1700=>?_)
          ·skip
           refine wR0 1800 [4] cJ0 ?_
           refine wP ?_
           exact qad (by have k4:k=4∨k=5:=(by first | exact .inl (tk _ hc1500) | exact .inr (tk _ hc1600));rw[e,if_neg (by omega),if_neg (by omega),if_neg (by omega),if_pos k4,Bool.eq_iff_iff];simp[qav] at hc1700;simp;omega)
          ·skip
           refine wN ?_
           have e2:qaJ (.mk k s rs ps) d=qa9 ps (d - 1):=(by first | (have k3:=tk _ hc1200;simp[qav,-List.length_eq_zero_iff] at hc1300;have h3:((s==0)&&!decide ((ps.length:Int)<1)&&!decide ((ps.length:Int) > 8))=true:=(by simp[-List.length_eq_zero_iff];omega);rw[e,if_neg (by omega),if_neg (by omega),if_neg (by omega),if_neg (by omega),if_pos k3,h3,Bool.true_and]) | (have k4:k=4∨k=5:=(by first | exact .inl (tk _ hc1500) | exact .inr (tk _ hc1600));simp[qav] at hc1700;rw[e,if_neg (by omega),if_neg (by omega),if_neg (by omega),if_pos k4];simp[hc1700]))
           refine wRn 2000 [4] cJ0 ?_
           refine rL [(1,.live ⟨3,[.int .i64 d]⟩)] cJ0 ?_
           refine⟨_,_,hcf (by omega),fZl,rfl,rE cJ0 ?_⟩
           refine wP ?_
           exact qad (by rw[e2,qcg])
         ·skip
          refine wR0 1900 [4] cJ0 ?_
          refine wP ?_
          exact qad (by rw[e,if_neg (fk _ hc500),if_neg (fun h=>h.elim (fk _ hc700) (fk _ hc800)),if_neg (fk _ hc1000),if_neg (fun h=>h.elim (fk _ hc1500) (fk _ hc1600)),if_neg (fk _ hc1200)])
termination_by t=>SizeOf.sizeOf t
decreasing_by exact qnf hp k s rs
theorem qmj (t:Ty)(ht:t.fit):TP Tryz.prog 186 [qaw t] (.int .i64 (qcX t)):=by
 rcases t with⟨k,s,rs,ps⟩
 refine qai fn186 (by simp) ?_
 unfold i186
 simp only[argL,qaw]
 refine wR0 0 [1] cJ0 ?_
 refine wRn 100 [5] cJ0 ?_
 refine rC cJ0 ?_
 refine⟨_,qj1 (.mk k s rs ps) 8 ht (by omega) (by omega),rE cJ0 ?_⟩
 refine wS cJ0 (fun hc100=>?_) (fun hc100=>?_)
 ·skip
  refine wR0 200 [2] cJ0 ?_
  refine wP ?_
  exact qaB (by simp at hc100;simp[qcX,hc100])
 ·skip
  refine wR0 300 [2] cJ0 ?_
  refine wP ?_
  exact qaB (by simp at hc100;simp[qcX,hc100])
theorem qoa (v:V):decide (qjT v≤128)=decide (qcU v 128≤128):=by
 rw[Bool.eq_iff_iff];simp only[decide_eq_true_eq];unfold qjT;split<;>omega
theorem qmq (t:Ty)(v:V)(ht:t.fit)(hv:v.fit):TP Tryz.prog 149 [qaw t,encV v] (.bool (qgn t v)):=by
 rcases t with⟨k,s,rs,ps⟩
 rcases v with⟨n,ks⟩
 refine qai fn149 (by simp) ?_
 unfold i149
 simp only[argL,encV,qaw]
 refine wR0 0 [2,3] cJ0 ?_
 refine wRn 100 [4] cJ0 ?_
 refine rC cJ0 ?_
 refine⟨_,qmj (.mk k s rs ps) ht,rN cJ0 ?_⟩
 refine rCi cJ0 ?_
 refine⟨_,fun hw=>qob (.mk n ks) hv,rN cJ0 ?_⟩
 refine rCi cJ0 ?_
 refine⟨_,fun hw=>qjR (.mk k s rs ps) (.mk n ks) 8 ht hv (by rw[←qll];simp at hw;simp[hw.1]),rE cJ0 ?_⟩
 refine wP ?_
 exact qad (by rw[qgn,←qoa])
end
end Go.Proofs.YtncpdpbpcnoeeaaGreat
