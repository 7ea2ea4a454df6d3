/- Contracts of functions of the program, for all arguments that they name. -/
import Derived.Test.YtpplncjaihgimaaGreatK10
namespace Go.Proofs.YtpplncjaihgimaaGreat
set_option linter.unusedVariables false
section
open Go.RowKit
set_option maxHeartbeats 2000000
theorem TP.ofNil {P:Program}{f:FuncId}{xs ys:List T}{r:T}(h:TP P f ys r)(hz:FrzL (fun _=>.free) xs ys):TP P f xs r:=h.give hz
def ixF {α:Type}(p:α→Bool):List α→Int→Int
 | [],_ => -1
 | k::ks,i=>if p k=true then i else ixF p ks (i+1)
theorem qnp {α:Type}(p:α→Bool):∀(ks:List α) (i:Int),0≤i→decide (ixF p ks i≥0)=ks.any p
 | [],i,_=>rfl
 | k::ks,i,hi=>by
  by_cases hp:p k=true
  ·simp only[ixF,List.any_cons,hp,Bool.true_or];exact decide_eq_true hi
  ·simp only[ixF,List.any_cons,Bool.eq_false_iff.2 hp,Bool.false_or];exact qnp p ks (i+1) (by omega)
def encI (n:Int):T:=.int .i64 n
theorem qsB (f:FuncId)(caps:List T)(hcaps:clL (fun _=>false) caps=true)(p:Int→Bool)(xs:List Int)(hl:xs.length≤1000000)(Q:IExit→(Nat→T)→Heap→Prop):∀(rest pre:List Int) (i:Nat),xs=pre++rest→pre.length=i→
 (∀k∈rest,TP Tryz.prog f ([encI k]++caps) (.bool (p k)))→
 (ixF p rest i = -1→∀i:Int,Q (.exit 0) (ofL [(0,.list (qab xs)),(1,.fn f caps),(7,.int .i64 (qab xs).length),(8,.int .i64 i),(9,.bool false)]) (hpL []))→
 (ixF p rest i ≠ -1→Q .ret (ofL [(4,.int .i64 (ixF p rest i))]) (hpL []))→
 WL Tryz.prog 19 qju (ofL [(0,.list (qab xs)),(1,.fn f caps),(7,.int .i64 (qab xs).length),(8,.int .i64 i)]) (hpL []) Q:=by
 intro rest
 induction rest with
 | nil=>
  intro pre i he hn hk hQ0 hQ1
  have hd:decide ((i:Int)<((qab xs).length:Int))=false:=by simp[qah,he,hn]
  have fX:=@hd
  refine qaa qju.eq_1 ?_
  refine wR0 200 [0,1,7,8,9] fX ?_
  refine wF @hd ?_
  refine wX ?_
  refine wN ?_
  exact hQ0 rfl _
 | cons k rest ih=>
  intro pre i he hn hk hQ0 hQ1
  skip
  have hlt:(i:Int)<((qab xs).length:Int):=by simp[qah,he];omega
  have hlb:i≤1000000:=by rw[he] at hl;simp at hl;omega
  have hd:decide ((i:Int)<((qab xs).length:Int))=true:=decide_eq_true hlt
  have hg:(qab xs).getD (i:Int).toNat .undef=.int .i64 k:=by rw[Int.toNat_natCast,he,←hn];exact qc4 _ k _
  have hw:IntKind.wrap .i64 ((i:Int)+1)=(i:Int)+1:=wrap64 (by omega) (by omega)
  have fX:=(cJ3 @hd @hg @hw)
  refine qaa qju.eq_1 ?_
  refine wR0 200 [0,1,7,8,9] fX ?_
  refine wT @hd ?_
  refine wR0 300 [0,1,5,7,8] fX ?_
  refine wRn 400 [0,1,5,7,8,16] fX ?_
  refine rCv fX ?_
  refine⟨_,hk k (List.mem_cons_self ..),rE fX ?_⟩
  refine wS cJ0 (fun hc400=>?_) (fun hc400=>?_)
  ·skip
   refine wR0 500 [4] fX ?_
   refine wE ?_
   refine wN ?_
   have e:ixF p (k::rest) i=i:=(by simp[ixF,hc400])
   rw[e] at hQ1
   exact hQ1 (by omega)
  ·skip
   refine wR0 600 [0,1,7,8] fX ?_
   refine wN ?_
   have e:ixF p (k::rest) i=ixF p rest ((i+1:Nat):Int):=(by simp[ixF,hc400])
   rw[e] at hQ0 hQ1
   have:=ih (pre++[k]) (i+1) (by simp[he]) (by simp;omega) (fun k' hk'=>hk k' (List.mem_cons_of_mem _ hk')) hQ0 hQ1
   simpa using this
theorem ixI_tp (f:FuncId)(caps:List T)(hcaps:clL (fun _=>false) caps=true)(p:Int→Bool)(xs:List Int)(hl:xs.length≤1000000)(hk:∀k∈xs,TP Tryz.prog f ([encI k]++caps) (.bool (p k))):TP Tryz.prog 174 [.list (qab xs),.fn f caps] (.int .i64 (ixF p xs 0)):=by
 refine qan fn174 (by simp) ?_
 unfold i174
 simp only[argL]
 refine wR0 0 [0,1] cJ0 ?_
 refine wR0 100 [0,1,7,8] cJ0 ?_
 refine wL ?_
 refine qsB f caps hcaps p xs hl _ xs [] 0 rfl rfl hk ?_ ?_
 ·intro h i
  refine wN ?_
  refine wR0 700 [4] cJ0 ?_
  refine wP ?_
  exact qaW h.symm
 ·intro h
  refine wN ?_
  exact⟨by simp,_,rfl,by exact .same rfl⟩
theorem qmI (f:FuncId)(caps:List T)(hcaps:clL (fun _=>false) caps=true)(p:Int→Bool)(xs:List Int)(hl:xs.length≤1000000)(hk:∀k∈xs,TP Tryz.prog f ([encI k]++caps) (.bool (p k))):TP Tryz.prog 132 [.list (qab xs),.fn f caps] (.bool (xs.any p)):=by
 have hfr:froL [.list (qab xs),.fn f caps]=true:=by simp[froL,clL,T.cl,hcaps,qae]
 refine qan fn132 (by simp) ?_
 unfold i132
 simp only[argL]
 refine wR0 0 [0,1] cJ0 ?_
 refine wRn 100 [4] cJ0 ?_
 refine rC cJ0 ?_
 refine⟨_,ixI_tp f caps hcaps p xs hl hk,rE cJ0 ?_⟩
 refine wP ?_
 exact qad (qnp p xs 0 (by omega))
theorem qqt (f:FuncId)(caps:List T)(hcaps:clL (fun _=>false) caps=true)(p:Ty→Bool)(xs:List Ty)(hl:xs.length≤1000000)(Q:IExit→(Nat→T)→Heap→Prop):∀(rest pre:List Ty) (i:Nat),xs=pre++rest→pre.length=i→
 (∀k∈rest,TP Tryz.prog f ([qal k]++caps) (.bool (p k)))→
 (ixF p rest i = -1→∀i:Int,Q (.exit 0) (ofL [(0,.list (qak xs)),(1,.fn f caps),(7,.int .i64 (qak xs).length),(8,.int .i64 i),(9,.bool false)]) (hpL []))→
 (ixF p rest i ≠ -1→Q .ret (ofL [(4,.int .i64 (ixF p rest i))]) (hpL []))→
 WL Tryz.prog 19 qjA (ofL [(0,.list (qak xs)),(1,.fn f caps),(7,.int .i64 (qak xs).length),(8,.int .i64 i)]) (hpL []) Q:=by
 intro rest
 induction rest with
 | nil=>
  intro pre i he hn hk hQ0 hQ1
  have hd:decide ((i:Int)<((qak xs).length:Int))=false:=by simp[qap,he,hn]
  have fX:=@hd
  refine qaa qjA.eq_1 ?_
  refine wR0 200 [0,1,7,8,9] fX ?_
  refine wF @hd ?_
  refine wX ?_
  refine wN ?_
  exact hQ0 rfl _
 | cons k rest ih=>
  intro pre i he hn hk hQ0 hQ1
  rcases k with⟨tk,tsz,trs,tps⟩
  have hlt:(i:Int)<((qak xs).length:Int):=by simp[qap,he];omega
  have hlb:i≤1000000:=by rw[he] at hl;simp at hl;omega
  have hd:decide ((i:Int)<((qak xs).length:Int))=true:=decide_eq_true hlt
  have hg:(qak xs).getD (i:Int).toNat .undef=.agg [.int .i64 tk,.int .i64 tsz,.list (qab trs),.list (qak tps)]:=by rw[Int.toNat_natCast,he,←hn];exact qcW _ (.mk tk tsz trs tps) _
  have hw:IntKind.wrap .i64 ((i:Int)+1)=(i:Int)+1:=wrap64 (by omega) (by omega)
  have fX:=(cJ3 @hd @hg @hw)
  refine qaa qjA.eq_1 ?_
  refine wR0 200 [0,1,7,8,9] fX ?_
  refine wT @hd ?_
  refine wR0 300 [0,1,5,7,8] fX ?_
  refine wRn 400 [0,1,5,7,8,16] fX ?_
  refine rCv fX ?_
  refine⟨_,hk (.mk tk tsz trs tps) (List.mem_cons_self ..),rE fX ?_⟩
  refine wS cJ0 (fun hc400=>?_) (fun hc400=>?_)
  ·skip
   refine wR0 500 [4] fX ?_
   refine wE ?_
   refine wN ?_
   have e:ixF p ((.mk tk tsz trs tps)::rest) i=i:=(by simp[ixF,hc400])
   rw[e] at hQ1
   exact hQ1 (by omega)
  ·skip
   refine wR0 600 [0,1,7,8] fX ?_
   refine wN ?_
   have e:ixF p ((.mk tk tsz trs tps)::rest) i=ixF p rest ((i+1:Nat):Int):=(by simp[ixF,hc400])
   rw[e] at hQ0 hQ1
   have:=ih (pre++[(.mk tk tsz trs tps)]) (i+1) (by simp[he]) (by simp;omega) (fun k' hk'=>hk k' (List.mem_cons_of_mem _ hk')) hQ0 hQ1
   simpa using this
theorem quI (f:FuncId)(caps:List T)(hcaps:clL (fun _=>false) caps=true)(p:Ty→Bool)(xs:List Ty)(hl:xs.length≤1000000)(hk:∀k∈xs,TP Tryz.prog f ([qal k]++caps) (.bool (p k))):TP Tryz.prog 213 [.list (qak xs),.fn f caps] (.int .i64 (ixF p xs 0)):=by
 refine qan fn213 (by simp) ?_
 unfold i213
 simp only[argL]
 refine wR0 0 [0,1] cJ0 ?_
 refine wR0 100 [0,1,7,8] cJ0 ?_
 refine wL ?_
 refine qqt f caps hcaps p xs hl _ xs [] 0 rfl rfl hk ?_ ?_
 ·intro h i
  refine wN ?_
  refine wR0 700 [4] cJ0 ?_
  refine wP ?_
  exact qaW h.symm
 ·intro h
  refine wN ?_
  exact⟨by simp,_,rfl,by exact .same rfl⟩
theorem qur (f:FuncId)(caps:List T)(hcaps:clL (fun _=>false) caps=true)(p:Ty→Bool)(xs:List Ty)(hl:xs.length≤1000000)(hk:∀k∈xs,TP Tryz.prog f ([qal k]++caps) (.bool (p k))):TP Tryz.prog 197 [.list (qak xs),.fn f caps] (.bool (xs.any p)):=by
 have hfr:froL [.list (qak xs),.fn f caps]=true:=by simp[froL,clL,T.cl,hcaps,qaG]
 refine qan fn197 (by simp) ?_
 unfold i197
 simp only[argL]
 refine wR0 0 [0,1] cJ0 ?_
 refine wRn 100 [4] cJ0 ?_
 refine rC cJ0 ?_
 refine⟨_,quI f caps hcaps p xs hl hk,rE cJ0 ?_⟩
 refine wP ?_
 exact qad (qnp p xs 0 (by omega))
theorem qmg (x:Int):TP Tryz.prog 215 [.int .i64 x] (.bool (qev x)):=by
 refine qan fn215 (by simp) ?_
 unfold i215
 simp only[argL]
 refine wR0 0 [0] cJ0 ?_
 refine wR0 100 [2] cJ0 ?_
 refine wP ?_
 exact qad rfl
theorem qoX (xs:List Int)(hl:xs.length≤1000000):TP Tryz.prog 211 [.list (qab xs)] (.bool (qd6 xs)):=by
 refine qan fn211 (by simp) ?_
 unfold i211
 simp only[argL]
 refine wR0 0 [0] cJ0 ?_
 refine wRn 100 [2] cJ0 ?_
 refine rCi cJ0 ?_
 refine⟨_,fun hw=>qmI 215 [] rfl qev xs hl (fun k hk=>qmg k),rE cJ0 ?_⟩
 refine wP ?_
 exact qad (by simp only[qd6,qah];rw[Bool.and_comm])
theorem qoY (rs:List Int)(x:Int):TP Tryz.prog 212 [.int .i64 x,.ptr [.list (qab rs)]] (.bool (decide (x<0) || decide (x≥(rs.length:Int)))):=by
 refine qan fn212 (by simp) ?_
 unfold i212
 simp only[argL]
 refine wR0 0 [0,1] cJ0 ?_
 refine wR0 100 [3] cJ0 ?_
 refine wP ?_
 exact qad (by simp only[qah])
def qqY (rs w:List Int):Bool:=qd6 rs&&decide ((w.length:Int)≤12)&&!w.any fun x=>decide (x<0) || decide (x≥(rs.length:Int))
theorem qqZ (rs w:List Int)(hl:rs.length≤1000000)(hlw:w.length≤1000000):TP Tryz.prog 196 [.list (qab rs),.list (qab w)] (.bool (qqY rs w)):=by
 refine qan fn196 (by simp) ?_
 unfold i196
 simp only[argL]
 refine wR0 0 [1,2] cJ0 ?_
 refine wRn 100 [4] cJ0 ?_
 refine rC cJ0 ?_
 refine⟨_,qoX rs hl,rN cJ0 ?_⟩
 refine rLi [(0,.live ⟨22,[.list (qab rs)]⟩)] cJ0 ?_
 refine⟨_,_,fun hw=>qmI 212 [.ptr [.list (qab rs)]] (by simp[clL,T.cl]) (fun x=>decide (x<0) || decide (x≥(rs.length:Int))) w hlw (fun k hk=>qoY rs k),fZl,rfl,rE cJ0 ?_⟩
 refine wP ?_
 exact qad (by simp only[qqY,qah])
theorem qq4 (k s d:Int)(rs:List Int)(ps:List Ty)(hd:0<d∧d≤1000)(h:TP Tryz.prog 158 [qal (.mk k s rs ps),.int .i64 (d - 1)] (.bool (qar (.mk k s rs ps) (d - 1)))):TP Tryz.prog 198 [qal (.mk k s rs ps),.ptr [.int .i64 d]] (.bool (!qar (.mk k s rs ps) (d - 1))):=by
 have hw:IntKind.wrap .i64 (d - 1)=d - 1:=wrap64 (by omega) (by omega)
 have fX:=@hw
 refine qan fn198 (by simp) ?_
 unfold i198
 simp only[argL,qal]
 refine wR0 0 [1,2] fX ?_
 refine wRn 100 [3] fX ?_
 refine rC fX ?_
 refine⟨_,h,rE fX ?_⟩
 refine wP ?_
 exact .same rfl
theorem qdm (d:Int):∀ps:List Ty,(!ps.any fun p=>!qar p d)=qa1 ps d
 | []=>rfl
 | p::ps=>by rw[qa1,←qdm d ps];simp
set_option maxHeartbeats 4000000 in
theorem qnN:∀(t:Ty) (d:Int),t.fit→0≤d→d≤1000→TP Tryz.prog 158 [qal t,.int .i64 d] (.bool (qar t d))
 | .mk k s rs ps,d,ht,hd0,hd1=>by
  obtain⟨hf1,hf2,hf3⟩:=Ty.fit_all ht
  have tk:∀(c:Int),(k==c)=true→k=c:=fun c h=>by simpa using h
  have fk:∀(c:Int),(k==c)=false→k≠c:=fun c h=>by simpa using h
  have hcf:0<d→_:=fun hd=>qur 198 [.ptr [.int .i64 d]] (by simp[clL,T.cl]) (fun p=>!qar p (d - 1)) ps hf2 (fun p hp=>by
   have:=qnN p (d - 1) (hf3 p hp) (by omega) (by omega)
   rcases p with⟨pk,psz,prs,pps⟩
   exact qq4 pk psz d prs pps ⟨hd,hd1⟩ this)
  by_cases hz:d=0
  ·have hd0:(d==0)=true:=by simp[hz]
   refine qan fn158 (by simp) ?_
   unfold i158
   simp only[argL,qal]
   refine wR0 0 [2,3] cJ0 ?_
   refine wR0 100 [2,3,18] @hd0 ?_
   refine wT cJ0 ?_
   refine wR0 200 [4] cJ0 ?_
   refine wP ?_
   exact qad (by simp[qar,hz])
  have hd0:(d==0)=false:=by simp[hz]
  refine qan fn158 (by simp) ?_
  unfold i158
  simp only[argL,qal]
  refine wR0 0 [2,3] cJ0 ?_
  refine wR0 100 [2,3,18] @hd0 ?_
  refine wS cJ0 (fun hc100=>?_) (fun hc100=>?_)
  ·skip
   refine wR0 200 [4] cJ0 ?_
   refine wP ?_
   exact qad (by simp[qah] at hc100;rw[qar,if_neg hz,if_pos hc100])
  ·skip
   refine wR0 300 [2,3,5] cJ0 ?_
   simp only[thn]
   have h0:d≠0∧¬(0<rs.length∧k≠7):=(by refine⟨hz,fun hh=>?_⟩;simp[qah] at hc100;exact hh.2 (hc100 hh.1))
   have e:=(show qar (.mk k s rs ps) d=_ from by rw[qar,if_neg h0.1,if_neg h0.2])
   refine wR0 400 [2,3,5,24] cJ0 ?_
   refine wR0 500 [2,3,5,24,25] cJ0 ?_
   refine wS cJ0 (fun hc500=>?_) (fun hc500=>?_)
   ·skip
    refine wR0 600 [4] cJ0 ?_
    refine wP ?_
    exact qad (by rw[e,if_pos (tk _ hc500)];simp[qap,Bool.and_comm])
   ·skip
    refine wR0 700 [2,3,5,24,33] cJ0 ?_
    refine wS cJ0 (fun hc700=>?_) (fun hc700=>?_)
    ·skip
     refine wT @hc700 ?_
     refine wR0 900 [4] cJ0 ?_
     refine wP ?_
     exact qad (by have k6:k=2∨k=6:=(by first | exact .inl (tk _ hc700) | exact .inr (tk _ hc800));rw[e,if_neg (fk _ hc500),if_pos k6,Bool.eq_iff_iff];simp[qap];exact⟨fun h=>⟨⟨h.1.2,h.2⟩,h.1.1⟩,fun h=>⟨⟨h.2,h.1.1⟩,h.1.2⟩⟩)
    ·skip
     refine wR0 800 [2,3,5,24,33] cJ0 ?_
     refine wS cJ0 (fun hc800=>?_) (fun hc800=>?_)
     ·skip
      refine wR0 900 [4] cJ0 ?_
      refine wP ?_
      exact qad (by have k6:k=2∨k=6:=(by first | exact .inl (tk _ hc700) | exact .inr (tk _ hc800));rw[e,if_neg (fk _ hc500),if_pos k6,Bool.eq_iff_iff];simp[qap];exact⟨fun h=>⟨⟨h.1.2,h.2⟩,h.1.1⟩,fun h=>⟨⟨h.2,h.1.1⟩,h.1.2⟩⟩)
     ·skip
      refine wR0 1000 [2,3,5,24,47] cJ0 ?_
      refine wS cJ0 (fun hc1000=>?_) (fun hc1000=>?_)
      ·skip
       refine wRn 1100 [4] cJ0 ?_
       refine rCi cJ0 ?_
       refine⟨_,fun hw=>TP.ofNil (qqZ rs [] hf1 (by simp)) (by exact fZl),rE cJ0 ?_⟩
       refine wP ?_
       exact qad (by have k7:=tk _ hc1000;rw[e,if_neg (fk _ hc500),if_neg (by omega),if_pos k7];simp only[qap,qah,qqY,qd6,List.any_nil,List.length_nil,Bool.not_false,Bool.and_true];generalize (!rs.any qev)=q;rw[Bool.eq_iff_iff];cases q<;>simp[-List.length_eq_zero_iff]<;>omega)
      ·skip
       refine wR0 1200 [2,3,5,24,63] cJ0 ?_
       refine wS cJ0 (fun hc1200=>?_) (fun hc1200=>?_)
       ·skip
        refine wR0 1300 [2,3,76] cJ0 ?_
        refine wS cJ0 (fun hc1300=>?_) (fun hc1300=>?_)
        ·skip
         refine wR0 1400 [4] cJ0 ?_
         refine wP ?_
         exact qad (by have k3:=tk _ hc1200;simp[qap,-List.length_eq_zero_iff] at hc1300;have h3:((s==0)&&!decide ((ps.length:Int)<1)&&!decide ((ps.length:Int) > 8))=false:=(by rw[Bool.eq_false_iff];simp[-List.length_eq_zero_iff];omega);rw[e,if_neg (by omega),if_neg (by omega),if_neg (by omega),if_neg (by omega),if_pos k3,h3,Bool.false_and])
        ·skip
         refine wN ?_
         have e2:qar (.mk k s rs ps) d=qa1 ps (d - 1):=(by first | (have k3:=tk _ hc1200;simp[qap,-List.length_eq_zero_iff] at hc1300;have h3:((s==0)&&!decide ((ps.length:Int)<1)&&!decide ((ps.length:Int) > 8))=true:=(by simp[-List.length_eq_zero_iff];omega);rw[e,if_neg (by omega),if_neg (by omega),if_neg (by omega),if_neg (by omega),if_pos k3,h3,Bool.true_and]) | (have k4:k=4∨k=5:=(by first | exact .inl (tk _ hc1500) | exact .inr (tk _ hc1600));simp[qap] at hc1700;rw[e,if_neg (by omega),if_neg (by omega),if_neg (by omega),if_pos k4];simp[hc1700]))
         refine wRn 2000 [4] cJ0 ?_
         refine rL [(1,.live ⟨3,[.int .i64 d]⟩)] cJ0 ?_
         refine⟨_,_,hcf (by omega),fZl,rfl,rE cJ0 ?_⟩
         refine wP ?_
         exact qad (by rw[e2,qdm])
       ·skip
        refine wR0 1500 [2,3,24,77] cJ0 ?_
        refine wS cJ0 (fun hc1500=>?_) (fun hc1500=>?_)
        ·skip
         refine wT @hc1500 ?_
         refine wR0 1700 [2,3,88] cJ0 ?_
         refine wS cJ0 (fun hc1700=>?_) (fun hc1700=>?_)
         ·skip
          refine wR0 1800 [4] cJ0 ?_
          refine wP ?_
          exact qad (by have k4:k=4∨k=5:=(by first | exact .inl (tk _ hc1500) | exact .inr (tk _ hc1600));rw[e,if_neg (by omega),if_neg (by omega),if_neg (by omega),if_pos k4,Bool.eq_iff_iff];simp[qap] at hc1700;simp;omega)
         ·skip
          refine wN ?_
          have e2:qar (.mk k s rs ps) d=qa1 ps (d - 1):=(by first | (have k3:=tk _ hc1200;simp[qap,-List.length_eq_zero_iff] at hc1300;have h3:((s==0)&&!decide ((ps.length:Int)<1)&&!decide ((ps.length:Int) > 8))=true:=(by simp[-List.length_eq_zero_iff];omega);rw[e,if_neg (by omega),if_neg (by omega),if_neg (by omega),if_neg (by omega),if_pos k3,h3,Bool.true_and]) | (have k4:k=4∨k=5:=(by first | exact .inl (tk _ hc1500) | exact .inr (tk _ hc1600));simp[qap] at hc1700;rw[e,if_neg (by omega),if_neg (by omega),if_neg (by omega),if_pos k4];simp[hc1700]))
          refine wRn 2000 [4] cJ0 ?_
          refine rL [(1,.live ⟨3,[.int .i64 d]⟩)] cJ0 ?_
          refine⟨_,_,hcf (by omega),fZl,rfl,rE cJ0 ?_⟩
          refine wP ?_
          exact qad (by rw[e2,qdm])
        ·skip
         refine wR0 1600 [2,3,77] cJ0 ?_
         refine wS cJ0 (fun hc1600=>?_) (fun hc1600=>?_)
         ·skip
          refine wR0 1700 [2,3,88] cJ0 ?_
          refine wS cJ0 (fun hc1700=>?_) (fun hc1700=>?_)
          ·skip
           refine wR0 1800 [4] cJ0 ?_
           refine wP ?_
           exact qad (by have k4:k=4∨k=5:=(by first | exact .inl (tk _ hc1500) | exact .inr (tk _ hc1600));rw[e,if_neg (by omega),if_neg (by omega),if_neg (by omega),if_pos k4,Bool.eq_iff_iff];simp[qap] at hc1700;simp;omega)
          ·skip
           refine wN ?_
           have e2:qar (.mk k s rs ps) d=qa1 ps (d - 1):=(by first | (have k3:=tk _ hc1200;simp[qap,-List.length_eq_zero_iff] at hc1300;have h3:((s==0)&&!decide ((ps.length:Int)<1)&&!decide ((ps.length:Int) > 8))=true:=(by simp[-List.length_eq_zero_iff];omega);rw[e,if_neg (by omega),if_neg (by omega),if_neg (by omega),if_neg (by omega),if_pos k3,h3,Bool.true_and]) | (have k4:k=4∨k=5:=(by first | exact .inl (tk _ hc1500) | exact .inr (tk _ hc1600));simp[qap] at hc1700;rw[e,if_neg (by omega),if_neg (by omega),if_neg (by omega),if_pos k4];simp[hc1700]))
           refine wRn 2000 [4] cJ0 ?_
           refine rL [(1,.live ⟨3,[.int .i64 d]⟩)] cJ0 ?_
           refine⟨_,_,hcf (by omega),fZl,rfl,rE cJ0 ?_⟩
           refine wP ?_
           exact qad (by rw[e2,qdm])
         ·skip
          refine wR0 1900 [4] cJ0 ?_
          refine wP ?_
          exact qad (by rw[e,if_neg (fk _ hc500),if_neg (fun h=>h.elim (fk _ hc700) (fk _ hc800)),if_neg (fk _ hc1000),if_neg (fun h=>h.elim (fk _ hc1500) (fk _ hc1600)),if_neg (fk _ hc1200)])
termination_by t=>SizeOf.sizeOf t
decreasing_by exact qds hp k s rs
theorem qkW (t:Ty)(ht:t.fit):TP Tryz.prog 110 [qal t] (.int .i64 (qba t)):=by
 rcases t with⟨k,s,rs,ps⟩
 refine qan fn110 (by simp) ?_
 unfold i110
 simp only[argL,qal]
 refine wR0 0 [1] cJ0 ?_
 refine wRn 100 [5] cJ0 ?_
 refine rC cJ0 ?_
 refine⟨_,qnN (.mk k s rs ps) 8 ht (by omega) (by omega),rE cJ0 ?_⟩
 refine wS cJ0 (fun hc100=>?_) (fun hc100=>?_)
 ·skip
  refine wR0 200 [2] cJ0 ?_
  refine wP ?_
  exact qaW (by simp at hc100;simp[qba,hc100])
 ·skip
  refine wR0 300 [2] cJ0 ?_
  refine wP ?_
  exact qaW (by simp at hc100;simp[qba,hc100])
theorem qsY (v:V):decide (qgy v≤128)=decide (qbt v 128≤128):=by
 rw[Bool.eq_iff_iff];simp only[decide_eq_true_eq];unfold qgy;split<;>omega
theorem qk1 (t:Ty)(v:V)(ht:t.fit)(hv:v.fit):TP Tryz.prog 62 [qal t,encV v] (.bool (qaR t v)):=by
 rcases t with⟨k,s,rs,ps⟩
 rcases v with⟨n,ks⟩
 refine qan fn62 (by simp) ?_
 unfold i62
 simp only[argL,encV,qal]
 refine wR0 0 [2,3] cJ0 ?_
 refine wRn 100 [4] cJ0 ?_
 refine rC cJ0 ?_
 refine⟨_,qkW (.mk k s rs ps) ht,rN cJ0 ?_⟩
 refine rCi cJ0 ?_
 refine⟨_,fun hw=>qnF (.mk n ks) hv,rN cJ0 ?_⟩
 refine rCi cJ0 ?_
 refine⟨_,fun hw=>qkY (.mk k s rs ps) (.mk n ks) 8 ht hv (by rw[←qki];simp at hw;simp[hw.1]),rE cJ0 ?_⟩
 refine wP ?_
 exact qad (by rw[qaR,←qsY])
theorem qlQ (xs:List V)(hl:xs.length≤1000000)(Q:IExit→(Nat→T)→Heap→Prop):∀(rest pre:List V) (n:Nat),xs=pre++rest→pre.length=n→
 (∀k∈rest,TP Tryz.prog 166 [encV k] (encV k))→
 (∀i:Int,Q (.exit 0) (ofL [(3,rowT 504 xs),(6,.list (qac xs)),(7,.int .i64 (qac xs).length),(8,.int .i64 i),(9,.bool false)]) (hpL (rowH 504 25 xs)))→
 WL Tryz.prog 19 qhx (ofL [(3,rowT 504 pre),(6,.list (qac xs)),(7,.int .i64 (qac xs).length),(8,.int .i64 n)]) (hpL (rowH 504 25 pre)) Q:=by
 intro rest
 induction rest with
 | nil=>
  intro pre n he hn hk hQ
  have hd:decide ((n:Int)<((qac xs).length:Int))=false:=by simp[qag,he,hn]
  simp only[List.append_nil] at he
  subst he
  have fX:=@hd
  refine qaa qhx.eq_1 ?_
  refine wR0 300 [3,6,7,8,9] fX ?_
  refine wF @hd ?_
  refine wX ?_
  refine wN ?_
  exact hQ _
 | cons k rest ih=>
  intro pre n he hn hk hQ
  rcases k with⟨a,bs⟩
  have hlt:(n:Int)<((qac xs).length:Int):=by simp[qag,he];omega
  have hlb:n≤1000000:=by rw[he] at hl;simp at hl;omega
  have hd:decide ((n:Int)<((qac xs).length:Int))=true:=decide_eq_true hlt
  have hg:(qac xs).getD (n:Int).toNat .undef=.agg [.int .i64 a,.list (qac bs)]:=by rw[Int.toNat_natCast,he,←hn];exact qaU _ (.mk a bs) _
  have hw:IntKind.wrap .i64 ((n:Int)+1)=(n:Int)+1:=wrap64 (by omega) (by omega)
  cases pre with
  | nil=>
   simp only[rowT,rowH]
   have fX:=(cJ4 @hd @hg @hw @encV.eq_1)
   refine qaa qhx.eq_1 ?_
   refine W_gc ?_
   refine wR0 300 [3,6,7,8,9] fX ?_
   refine wT fX ?_
   refine wR0 400 [3,5,6,7,8] fX ?_
   refine wRn 500 [3,6,7,8] fX ?_
   refine rC fX ?_
   refine⟨_,hk (.mk a bs) (List.mem_cons_self ..),rE fX ?_⟩
   refine wR0 600 [3,6,7,8] fX ?_
   refine wN ?_
   refine qaC [504] (by simp[inL]) (by simp[inL,T.cl]) (by simp[qam,inL,Slot.cl,T.cl,clL]) ?_
   have:=ih [V.mk a bs] (n+1) (by simpa using he) (by simp at hn;simp;omega) (fun k' hk'=>hk k' (List.mem_cons_of_mem _ hk')) hQ
   simpa [qam,inL,rowT,rowH,qaq,V.n,V.kids] using this
  | cons p pre=>
   have hp:pre.length+1≤1000000:=by simp at hn;omega
   simp only[rowT,rowH]
   have fX:=(cJ5 @hd @hg @hw @encV.eq_1 @qaz)
   refine qaa qhx.eq_1 ?_
   refine W_gc ?_
   refine wR0 300 [3,6,7,8,9] fX ?_
   refine wT fX ?_
   refine wR0 400 [3,5,6,7,8] fX ?_
   refine wRn 500 [3,6,7,8] fX ?_
   refine rC fX ?_
   refine⟨_,hk (.mk a bs) (List.mem_cons_self ..),rE fX ?_⟩
   refine wR0 600 [3,6,7,8] fX ?_
   refine wN ?_
   refine qaC [504] (by simp[inL]) (by simp[inL,T.cl]) (by simp[qam,inL,Slot.cl,T.cl,clL,qay,qao]) ?_
   have:=ih (p::(pre++[V.mk a bs])) (n+1) (by simpa using he) (by simp at hn;simp;omega) (fun k' hk'=>hk k' (List.mem_cons_of_mem _ hk')) hQ
   have hs:qaq (p::(pre++[V.mk a bs]))=qaq (p::pre)++[.int .i64 a,.list (qac bs)]:=qbk (p::pre) (.mk a bs)
   have hm:(pre.length+1+1)*2=(pre.length+1)*2+2:=(by omega)
   simp only[rowT,rowH,hs,List.length_append,List.length_cons,List.length_nil,Nat.zero_add,hm] at this
   simpa [qam,inL] using this
theorem qio (xs:List V)(hl:xs.length≤1000000)(hk:∀k∈xs,TP Tryz.prog 166 [encV k] (encV k)):TP Tryz.prog 118 [.list (qac xs)] (.list (qac xs)):=by
 refine qan fn118 (by simp) ?_
 unfold i118
 simp only[argL]
 refine wR0 0 [0] cJ0 ?_
 refine wR0 100 [0,3] cJ0 ?_
 refine wR0 200 [3,6,7,8] cJ0 ?_
 refine wL ?_
 refine qlQ xs hl _ xs [] 0 rfl rfl hk ?_
 ·intro i
  refine wN ?_
  refine wN ?_
  rcases xs with _ | ⟨p,pre⟩
  ·skip
   refine wN ?_
   simp only[rowT,rowH]
   refine wR0 700 [2] cJ0 ?_
   refine wP ?_
   first | exact .nil | exact qbS _ rfl rfl rfl
  ·skip
   refine wN ?_
   simp only[rowT,rowH]
   refine wR0 700 [2] cJ0 ?_
   refine wP ?_
   first | exact .nil | exact qbS _ rfl rfl rfl
theorem qjJ:∀v:V,v.fit→TP Tryz.prog 166 [encV v] (encV v)
 | .mk N ks,hv=>by
  have hv':=V.fit_kids hv
  simp only[V.kids] at hv'
  have hc:=qio ks hv'.1 (fun k hk=>qjJ k (hv'.2 k hk))
  refine qan fn166 (by simp) ?_
  unfold i166
  simp only[argL,encV]
  refine wR0 0 [1,2] cJ0 ?_
  refine wRn 100 [2] cJ0 ?_
  refine rC cJ0 ?_
  refine⟨_,hc,rE cJ0 ?_⟩
  refine wP ?_
  exact .same (by simp[mkEl,esz,T.cl,clL])
termination_by v=>SizeOf.sizeOf v
decreasing_by exact qcR hk N
theorem qpW (xs:List V)(hl:xs.length≤1000000)(hf:∀k∈xs,k.fit):TP Tryz.prog 118 [.list (qac xs)] (.list (qac xs)):=
 qio xs hl fun k hk=>qjJ k (hf k hk)
end
end Go.Proofs.YtpplncjaihgimaaGreat
