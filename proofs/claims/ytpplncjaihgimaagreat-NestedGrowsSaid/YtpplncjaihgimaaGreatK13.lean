/- Contracts of functions of the program, for all arguments that they name. -/
import Derived.Test.YtpplncjaihgimaaGreatK03
import Derived.Test.YtpplncjaihgimaaGreatK06
import Derived.Test.YtpplncjaihgimaaGreatK09
import Derived.Test.YtpplncjaihgimaaGreatK12
namespace Go.Proofs.YtpplncjaihgimaaGreat
set_option linter.unusedVariables false
section
open Go.RowKit
set_option maxHeartbeats 2000000
def eqF {α:Type}(p:α→α→Bool):List α→List α→Bool
 | [],[]=>true
 | x::xs,y::ys=>p x y&&eqF p xs ys
 | _,_=>false
theorem qi9 {α:Type}(p:α→α→Bool)(h:∀x,p x x=true):∀xs,eqF p xs xs=true
 | []=>rfl
 | x::xs=>by simp[eqF,h,qi9 p h xs]
def eqI (a b:Int):Bool:=a==b
def eqTk (a b:Tk):Bool:=a.place==b.place&&(a.low==b.low&&(a.high==b.high&&true))
theorem qux (k:IntKind)(a b c d e f:Int):qdj 3 [.int k a,.int k b,.int k c] [.int k d,.int k e,.int k f]=some (a==d&&(b==e&&(c==f&&true))):=by simp[qdj]
theorem qsm (xs ys:List Int)(hl:xs.length≤1000000)(Q:IExit→(Nat→T)→Heap→Prop):∀(rest pre rest2 pre2:List Int) (i:Nat),xs=pre++rest→ys=pre2++rest2→pre.length=i→pre2.length=i→rest.length=rest2.length→
 (eqF eqI rest rest2=true→∀i:Int,Q (.exit 0) (ofL [(0,.list (qab xs)),(1,.list (qab ys)),(12,.int .i64 (qab xs).length),(13,.int .i64 i),(14,.bool false)]) (hpL []))→
 (eqF eqI rest rest2=false→Q .ret (ofL [(4,.bool false)]) (hpL []))→
 WL Tryz.prog 26 qjw (ofL [(0,.list (qab xs)),(1,.list (qab ys)),(12,.int .i64 (qab xs).length),(13,.int .i64 i)]) (hpL []) Q:=by
 intro rest
 induction rest with
 | nil=>
  intro pre rest2 pre2 i he he2 hn hn2 hlr hQ0 hQ1
  have hd:decide ((i:Int)<((qab xs).length:Int))=false:=by simp[qah,he,hn]
  have hr:rest2=[]:=List.eq_nil_of_length_eq_zero hlr.symm
  subst hr
  have fX:=@hd
  refine qaa qjw.eq_1 ?_
  refine wR0 400 [0,1,12,13,14] fX ?_
  refine wF @hd ?_
  refine wX ?_
  refine wN ?_
  exact hQ0 rfl _
 | cons k rest ih=>
  intro pre rest2 pre2 i he he2 hn hn2 hlr hQ0 hQ1
  cases rest2 with
  | nil=>simp at hlr
  | cons l rest2=>
  have hlt:(i:Int)<((qab xs).length:Int):=by simp[qah,he];omega
  have hlt2:(i:Int)<((qab ys).length:Int):=by simp[qah,he2];omega
  have hlb:i≤1000000:=by rw[he] at hl;simp at hl;omega
  have hd:decide ((i:Int)<((qab xs).length:Int))=true:=decide_eq_true hlt
  have hg:(qab xs).getD (i:Int).toNat .undef=encI k:=by rw[Int.toNat_natCast,he,←hn];exact qc4 _ k _
  have hg2:(qab ys).getD (i:Int).toNat .undef=encI l:=by rw[Int.toNat_natCast,he2,←hn2];exact qc4 _ l _
  have hw:IntKind.wrap .i64 ((i:Int)+1)=(i:Int)+1:=wrap64 (by omega) (by omega)
  have fX:=(cJ6 @hd @hg @hg2 @hw @encI.eq_1 @encI.eq_1)
  refine qaa qjw.eq_1 ?_
  refine wR0 400 [0,1,12,13,14] fX ?_
  refine wT @hd ?_
  refine wR0 500 [0,1,5,12,13] fX ?_
  refine wR0 600 [0,1,12,13,24] fX ?_
  refine wS cJ0 (fun hc600=>?_) (fun hc600=>?_)
  ·skip
   refine wR0 700 [4] fX ?_
   refine wE ?_
   refine wN ?_
   have hp:eqI k l=false:=(by simpa [eqI] using hc600)
   exact hQ1 (by simp[eqF,hp])
  ·skip
   refine wR0 800 [0,1,12,13] fX ?_
   refine wN ?_
   have hp:eqI k l=true:=(by simpa [eqI] using hc600)
   have e:eqF eqI (k::rest) (l::rest2)=eqF eqI rest rest2:=(by simp[eqF,hp])
   rw[e] at hQ0 hQ1
   exact ih (pre++[k]) rest2 (pre2++[l]) (i+1) (by simp[he]) (by simp[he2]) (by simp;omega) (by simp;omega) (by simpa using hlr) hQ0 hQ1
theorem qit (xs ys:List Int)(hl:xs.length≤1000000):TP Tryz.prog 188 [.list (qab xs),.list (qab ys)] (.bool ((xs.length==ys.length)&&eqF eqI xs ys)):=by
 refine qan fn188 (by simp) ?_
 unfold i188
 simp only[argL]
 refine wR0 0 [0,1] cJ0 ?_
 refine wR0 100 [0,1,10] cJ0 ?_
 refine wS cJ0 (fun hc100=>?_) (fun hc100=>?_)
 ·skip
  refine wR0 200 [4] cJ0 ?_
  refine wP ?_
  exact qad (by simp[qah] at hc100;have hne:xs.length≠ys.length:=(by omega);simp[hne])
 ·skip
  refine wR0 300 [0,1,12,13] cJ0 ?_
  simp only[thn]
  have hle:xs.length=ys.length:=(by simp[qah] at hc100;omega)
  refine wL ?_
  refine qsm xs ys hl _ xs [] ys [] 0 rfl rfl rfl rfl hle ?_ ?_
  ·intro h i
   refine wN ?_
   refine wR0 900 [4] cJ0 ?_
   refine wP ?_
   exact qad (by rw[h,hle];simp)
  ·intro h
   refine wN ?_
   exact⟨by simp,_,rfl,by exact qad (by rw[h];simp)⟩
theorem qp7 (xs ys:List Tk)(hl:xs.length≤1000000)(Q:IExit→(Nat→T)→Heap→Prop):∀(rest pre rest2 pre2:List Tk) (i:Nat),xs=pre++rest→ys=pre2++rest2→pre.length=i→pre2.length=i→rest.length=rest2.length→
 (eqF eqTk rest rest2=true→∀i:Int,Q (.exit 0) (ofL [(0,.list (qbM xs)),(1,.list (qbM ys)),(12,.int .i64 (qbM xs).length),(13,.int .i64 i),(14,.bool false)]) (hpL []))→
 (eqF eqTk rest rest2=false→Q .ret (ofL [(4,.bool false)]) (hpL []))→
 WL Tryz.prog 26 qjx (ofL [(0,.list (qbM xs)),(1,.list (qbM ys)),(12,.int .i64 (qbM xs).length),(13,.int .i64 i)]) (hpL []) Q:=by
 intro rest
 induction rest with
 | nil=>
  intro pre rest2 pre2 i he he2 hn hn2 hlr hQ0 hQ1
  have hd:decide ((i:Int)<((qbM xs).length:Int))=false:=by simp[qcs,he,hn]
  have hr:rest2=[]:=List.eq_nil_of_length_eq_zero hlr.symm
  subst hr
  have fX:=@hd
  refine qaa qjx.eq_1 ?_
  refine wR0 400 [0,1,12,13,14] fX ?_
  refine wF @hd ?_
  refine wX ?_
  refine wN ?_
  exact hQ0 rfl _
 | cons k rest ih=>
  intro pre rest2 pre2 i he he2 hn hn2 hlr hQ0 hQ1
  cases rest2 with
  | nil=>simp at hlr
  | cons l rest2=>
  have hlt:(i:Int)<((qbM xs).length:Int):=by simp[qcs,he];omega
  have hlt2:(i:Int)<((qbM ys).length:Int):=by simp[qcs,he2];omega
  have hlb:i≤1000000:=by rw[he] at hl;simp at hl;omega
  have hd:decide ((i:Int)<((qbM xs).length:Int))=true:=decide_eq_true hlt
  have hg:(qbM xs).getD (i:Int).toNat .undef=qlV k:=by rw[Int.toNat_natCast,he,←hn];exact qir _ k _
  have hg2:(qbM ys).getD (i:Int).toNat .undef=qlV l:=by rw[Int.toNat_natCast,he2,←hn2];exact qir _ l _
  have hw:IntKind.wrap .i64 ((i:Int)+1)=(i:Int)+1:=wrap64 (by omega) (by omega)
  have fX:=(cJ8 @hd @hg @hg2 @hw @qlV.eq_1 @qux @eqT.eq_1 @eqT.eq_2)
  refine qaa qjx.eq_1 ?_
  refine wR0 400 [0,1,12,13,14] fX ?_
  refine wT @hd ?_
  refine wR0 500 [0,1,5,12,13] fX ?_
  refine wR0 600 [0,1,12,13,24] fX ?_
  refine wS cJ0 (fun hc600=>?_) (fun hc600=>?_)
  ·skip
   refine wR0 700 [4] fX ?_
   refine wE ?_
   refine wN ?_
   have hp:eqTk k l=false:=(by cases h:eqTk k l<;>first | rfl | (exfalso;unfold eqTk at h;rw[h] at hc600;cases hc600))
   exact hQ1 (by simp[eqF,hp])
  ·skip
   refine wR0 800 [0,1,12,13] fX ?_
   refine wN ?_
   have hp:eqTk k l=true:=(by cases h:eqTk k l<;>first | rfl | (exfalso;unfold eqTk at h;rw[h] at hc600;cases hc600))
   have e:eqF eqTk (k::rest) (l::rest2)=eqF eqTk rest rest2:=(by simp[eqF,hp])
   rw[e] at hQ0 hQ1
   exact ih (pre++[k]) rest2 (pre2++[l]) (i+1) (by simp[he]) (by simp[he2]) (by simp;omega) (by simp;omega) (by simpa using hlr) hQ0 hQ1
theorem quy (xs ys:List Tk)(hl:xs.length≤1000000):TP Tryz.prog 189 [.list (qbM xs),.list (qbM ys)] (.bool ((xs.length==ys.length)&&eqF eqTk xs ys)):=by
 refine qan fn189 (by simp) ?_
 unfold i189
 simp only[argL]
 refine wR0 0 [0,1] cJ0 ?_
 refine wR0 100 [0,1,10] cJ0 ?_
 refine wS cJ0 (fun hc100=>?_) (fun hc100=>?_)
 ·skip
  refine wR0 200 [4] cJ0 ?_
  refine wP ?_
  exact qad (by simp[qcs] at hc100;have hne:xs.length≠ys.length:=(by omega);simp[hne])
 ·skip
  refine wR0 300 [0,1,12,13] cJ0 ?_
  simp only[thn]
  have hle:xs.length=ys.length:=(by simp[qcs] at hc100;omega)
  refine wL ?_
  refine qp7 xs ys hl _ xs [] ys [] 0 rfl rfl rfl rfl hle ?_ ?_
  ·intro h i
   refine wN ?_
   refine wR0 900 [4] cJ0 ?_
   refine wP ?_
   exact qad (by rw[h,hle];simp)
  ·intro h
   refine wN ?_
   exact⟨by simp,_,rfl,by exact qad (by rw[h];simp)⟩
def qih (xs ys:List Int):Bool:=(xs.length==ys.length)&&eqF eqI xs ys
def qlm (xs ys:List Tk):Bool:=(xs.length==ys.length)&&eqF eqTk xs ys
theorem qgn (xs:List Int):qih xs xs=true:=by simp[qih,qi9 eqI (fun x=>by simp[eqI])]
theorem qhZ (xs:List Tk):qlm xs xs=true:=by simp[qlm,qi9 eqTk (fun x=>by simp[eqTk])]
theorem qrh (xs:List Int):qih xs []=(xs.length==0):=by cases xs<;>simp[qih,eqF]
theorem qpb (xs:List Tk):qlm xs []=(xs.length==0):=by cases xs<;>simp[qlm,eqF]
theorem qqs (f:FuncId)(caps:List T)(hcaps:clL (fun _=>false) caps=true)(p:Rl→Bool)(xs:List Rl)(hl:xs.length≤1000000)(Q:IExit→(Nat→T)→Heap→Prop):∀(rest pre:List Rl) (i:Nat),xs=pre++rest→pre.length=i→
 (∀k∈rest,TP Tryz.prog f ([qbK k]++caps) (.bool (p k)))→
 (ixF p rest i = -1→∀i:Int,Q (.exit 0) (ofL [(0,.list (qaN xs)),(1,.fn f caps),(7,.int .i64 (qaN xs).length),(8,.int .i64 i),(9,.bool false)]) (hpL []))→
 (ixF p rest i ≠ -1→Q .ret (ofL [(4,.int .i64 (ixF p rest i))]) (hpL []))→
 WL Tryz.prog 19 qjl (ofL [(0,.list (qaN xs)),(1,.fn f caps),(7,.int .i64 (qaN xs).length),(8,.int .i64 i)]) (hpL []) Q:=by
 intro rest
 induction rest with
 | nil=>
  intro pre i he hn hk hQ0 hQ1
  have hd:decide ((i:Int)<((qaN xs).length:Int))=false:=by simp[qaB,he,hn]
  have fX:=@hd
  refine qaa qjl.eq_1 ?_
  refine wR0 200 [0,1,7,8,9] fX ?_
  refine wF @hd ?_
  refine wX ?_
  refine wN ?_
  exact hQ0 rfl _
 | cons k rest ih=>
  intro pre i he hn hk hQ0 hQ1
  skip
  have hlt:(i:Int)<((qaN xs).length:Int):=by simp[qaB,he];omega
  have hlb:i≤1000000:=by rw[he] at hl;simp at hl;omega
  have hd:decide ((i:Int)<((qaN xs).length:Int))=true:=decide_eq_true hlt
  have hg:(qaN xs).getD (i:Int).toNat .undef=.agg [.str k.name,.int .i64 k.from_,.int .i64 k.to_,.list (qab k.need),.list (qab k.give),.list (qab k.move),.int .i64 k.chan,.int .i64 k.act,.int .i64 k.lett,.list (qab k.path),.list (qab k.next),.list (qbM k.takes),.list (qab k.makes),.int .i64 k.second]:=by rw[Int.toNat_natCast,he,←hn];exact qeN _ k _
  have hw:IntKind.wrap .i64 ((i:Int)+1)=(i:Int)+1:=wrap64 (by omega) (by omega)
  have fX:=(cJ3 @hd @hg @hw)
  refine qaa qjl.eq_1 ?_
  refine wR0 200 [0,1,7,8,9] fX ?_
  refine wT @hd ?_
  refine wR0 300 [0,1,5,7,8] fX ?_
  refine wRn 400 [0,1,5,7,8,16] fX ?_
  refine rCv fX ?_
  refine⟨_,hk k (List.mem_cons_self ..),rE fX ?_⟩
  refine wS cJ0 (fun hc400=>?_) (fun hc400=>?_)
  ·skip
   refine wR0 500 [4] fX ?_
   refine wE ?_
   refine wN ?_
   have e:ixF p (k::rest) i=i:=(by simp[ixF,hc400])
   rw[e] at hQ1
   exact hQ1 (by omega)
  ·skip
   refine wR0 600 [0,1,7,8] fX ?_
   refine wN ?_
   have e:ixF p (k::rest) i=ixF p rest ((i+1:Nat):Int):=(by simp[ixF,hc400])
   rw[e] at hQ0 hQ1
   have:=ih (pre++[k]) (i+1) (by simp[he]) (by simp;omega) (fun k' hk'=>hk k' (List.mem_cons_of_mem _ hk')) hQ0 hQ1
   simpa using this
theorem quH (f:FuncId)(caps:List T)(hcaps:clL (fun _=>false) caps=true)(p:Rl→Bool)(xs:List Rl)(hl:xs.length≤1000000)(hk:∀k∈xs,TP Tryz.prog f ([qbK k]++caps) (.bool (p k))):TP Tryz.prog 137 [.list (qaN xs),.fn f caps] (.int .i64 (ixF p xs 0)):=by
 refine qan fn137 (by simp) ?_
 unfold i137
 simp only[argL]
 refine wR0 0 [0,1] cJ0 ?_
 refine wR0 100 [0,1,7,8] cJ0 ?_
 refine wL ?_
 refine qqs f caps hcaps p xs hl _ xs [] 0 rfl rfl hk ?_ ?_
 ·intro h i
  refine wN ?_
  refine wR0 700 [4] cJ0 ?_
  refine wP ?_
  exact qaW h.symm
 ·intro h
  refine wN ?_
  exact⟨by simp,_,rfl,by exact .same rfl⟩
theorem quq (f:FuncId)(caps:List T)(hcaps:clL (fun _=>false) caps=true)(p:Rl→Bool)(xs:List Rl)(hl:xs.length≤1000000)(hk:∀k∈xs,TP Tryz.prog f ([qbK k]++caps) (.bool (p k))):TP Tryz.prog 90 [.list (qaN xs),.fn f caps] (.bool (xs.any p)):=by
 have hfr:froL [.list (qaN xs),.fn f caps]=true:=by simp[froL,clL,T.cl,hcaps,qp6]
 refine qan fn90 (by simp) ?_
 unfold i90
 simp only[argL]
 refine wR0 0 [0,1] cJ0 ?_
 refine wRn 100 [4] cJ0 ?_
 refine rC cJ0 ?_
 refine⟨_,quH f caps hcaps p xs hl hk,rE cJ0 ?_⟩
 refine wP ?_
 exact qad (qnp p xs 0 (by omega))
theorem quf (f:FuncId)(caps:List T)(hcaps:clL (fun _=>false) caps=true)(x:Int)(b:Bool)(h:TP Tryz.prog f ([.int .i64 x]++caps) (.bool b)):TP Tryz.prog 187 [.int .i64 x,.ptr [.fn f caps]] (.bool (!b)):=by
 refine qan fn187 (by simp) ?_
 unfold i187
 simp only[argL]
 refine wR0 0 [0,1] cJ0 ?_
 refine wRn 100 [3] cJ0 ?_
 refine rCv cJ0 ?_
 refine⟨_,h,rE cJ0 ?_⟩
 refine wP ?_
 exact qad rfl
theorem qtS (f:FuncId)(caps:List T)(hcaps:clL (fun _=>false) caps=true)(p:Int→Bool)(l:List Int)(hl:l.length≤1000000)(hk:∀x∈l,TP Tryz.prog f ([.int .i64 x]++caps) (.bool (p x))):TP Tryz.prog 144 [.list (qab l),.fn f caps] (.bool (l.all p)):=by
 have hcaps0:clL (fun i=>decide (i=0)) caps=true:=qdf (fun i hi=>by simp at hi) _ hcaps
 refine qan fn144 (by simp) ?_
 unfold i144
 simp only[argL]
 refine wR0 0 [0,3] cJ0 ?_
 refine wRn 100 [4] cJ0 ?_
 refine rL [(0,.live ⟨_,[.fn f caps]⟩)] cJ0 ?_
 refine⟨_,_,qmI 187 [.ptr [.fn f caps]] (by simp[clL,T.cl,hcaps]) (fun x=>!p x) l hl (fun x hx=>quf f caps hcaps x _ (hk x hx)),fZl,rfl,rE cJ0 ?_⟩
 refine wP ?_
 exact qad (by rw[List.all_eq_not_any_not])
def qt7 (x:Int):Bool:=btw x 0 16
def qmK (m:Md)(r:Rl):Bool:=((r.need.length:Int)==m.places.length)&&((r.give.length:Int)==m.places.length)&&r.need.all qt7&&r.give.all qt7
def movesM (m:Md)(r:Rl):Bool:=((r.move.length:Int)==0) || (((r.move.length:Int)==m.places.length)&&r.move.all fun x=>btw x (-1) ((m.places.length:Int) - 1))
def actsM (m:Md)(r:Rl):Bool:=if r.act=0 then (r.chan==0)&&(r.lett==0) else btw r.act 1 2&&btw r.chan 0 ((m.places.length:Int) - 1)&&btw r.lett 0 ((m.letters.length:Int) - 1)
theorem qk2 (m:Md)(x:Int)(hm:m.letters.length≤1000):TP Tryz.prog 182 [.int .i64 x,.ptr (mdC m)] (.bool (btw x 0 ((m.letters.length:Int) - 1))):=by
 refine qan fn182 (by simp) ?_
 unfold i182
 simp only[argL,mdC]
 refine wR0 0 [0,1] cJ0 ?_
 refine wRn 100 [3] cJ0 ?_
 refine rC cJ0 ?_
 refine⟨_,qfM _ _ (by rw[qaf];omega),rE cJ0 ?_⟩
 refine wP ?_
 exact qad (by simp only[qaf])
def qhU (m:Md)(r:Rl):Bool:=decide ((r.path.length:Int)≤m.levels)&&decide ((r.next.length:Int)≤m.levels)&&decide ((r.path.length:Int)+r.next.length > 0)&&(r.path.all fun x=>btw x 0 ((m.letters.length:Int) - 1))&&r.next.all fun x=>btw x 0 ((m.letters.length:Int) - 1)
set_option maxHeartbeats 4000000 in
theorem qs0 (m:Md)(r:Rl)(hm:m.letters.length≤1000)(hr:r.fit):TP Tryz.prog 142 [qax m,qbK r] (.bool (qhU m r)):=by
 have ha1:=qtS 182 [.ptr (mdC m)] (by simp[clL,T.cl]) (fun x=>btw x 0 ((m.letters.length:Int) - 1)) r.path hr.path (fun x hx=>qk2 m x hm)
 have ha2:=qtS 182 [.ptr (mdC m)] (by simp[clL,T.cl]) (fun x=>btw x 0 ((m.letters.length:Int) - 1)) r.next hr.next (fun x hx=>qk2 m x hm)
 have hw:IntKind.wrap .i64 (((qab r.path).length:Int)+((qab r.next).length:Int))=((qab r.path).length:Int)+((qab r.next).length:Int):=by
  have:=hr.path;have:=hr.next
  rw[qah,qah];exact wrap64 (by omega) (by omega)
 simp only[mdC] at ha1 ha2
 have fX:=@hw
 refine qan fn142 (by simp) ?_
 unfold i142
 simp only[argL,qax,mdC,qbK,rlC]
 refine wR0 0 [2,3] fX ?_
 refine wR0 100 [2,3,5] fX ?_
 refine wRn 200 [4] fX ?_
 refine rLi [(0,.live ⟨_,mdC m⟩)] fX ?_
 refine⟨_,_,fun hw=>ha1,fZl,rfl,rN fX ?_⟩
 refine rLi [(0,.live ⟨_,mdC m⟩)] fX ?_
 refine⟨_,_,fun hw=>ha2,fZl,rfl,rE fX ?_⟩
 refine wP ?_
 exact qad (by simp only[qhU,qah])
theorem Frz.fnL {H:Heap}{f:FuncId}{cs cs':List T}(h:FrzL H cs cs'):Frz H (.fn f cs) (.fn f cs'):=.fn h.1 h.2
theorem Frz.refL {H:Heap}{id ty n:Nat}{cs:List T}(hb:H id=.live ⟨ty,cs⟩)(hn:n=cs.length)(h1:(cs.all T.one)=true)(hc:clL (fun _=>false) cs=true):Frz H (.ref id n 0) (.ptr cs):=by
 subst hn
 refine Frz.ref hb rfl (by simp) (fun c hc=>List.all_eq_true.1 h1 c hc) fun k hk=>?_
 rw[Nat.zero_add]
 exact .same (qbb hc k)
def ascI:List Int→Bool
 | a::b::l=>!decide (b<a)&&ascI (b::l)
 | _=>true
def badTk (n age:Int)(t:Tk):Bool:=!btw t.place 0 (n - 1) || decide (t.low<0) || decide (t.low > t.high) || decide (t.high > age+1)
def agesM (m:Md)(r:Rl):Bool:=decide ((r.takes.length:Int)≤3)&&decide ((r.makes.length:Int)≤3)&&ascI r.makes&&(r.makes.all fun x=>btw x 0 ((m.places.length:Int) - 1))&&!r.takes.any fun t=>badTk m.places.length m.age t
def qpa (a b:Rl):Bool:=
 (a.name.toList==b.name.toList)&&(a.from_==b.from_)&&(a.to_==b.to_)&&qih a.need b.need&&qih a.give b.give&&qih a.move b.move&&(a.chan==b.chan)&&(a.act==b.act)&&(a.lett==b.lett)&&
  qih a.path b.path&&qih a.next b.next&&qlm a.takes b.takes&&qih a.makes b.makes&&(a.second==b.second)
set_option maxHeartbeats 8000000 in
theorem qri (a b:Rl)(ha:a.fit):TP Tryz.prog 146 [qbK a,qbK b] (.bool (qpa a b)):=by
 have fX:=(cJ3 @binS.eq_1 @binS.eq_2 @binS.eq_3)
 refine qan fn146 (by simp) ?_
 unfold i146
 simp only[argL,qbK,rlC]
 refine wR0 0 [2,3] fX ?_
 refine wRn 100 [4] fX ?_
 refine rCi fX ?_
 refine⟨_,fun hw=>qit a.need b.need ha.need,rN fX ?_⟩
 refine rCi fX ?_
 refine⟨_,fun hw=>qit a.give b.give ha.give,rN fX ?_⟩
 refine rCi fX ?_
 refine⟨_,fun hw=>qit a.move b.move ha.move,rN fX ?_⟩
 refine rCi fX ?_
 refine⟨_,fun hw=>qit a.path b.path ha.path,rN fX ?_⟩
 refine rCi fX ?_
 refine⟨_,fun hw=>qit a.next b.next ha.next,rN fX ?_⟩
 refine rCi fX ?_
 refine⟨_,fun hw=>quy a.takes b.takes ha.takes,rN fX ?_⟩
 refine rCi fX ?_
 refine⟨_,fun hw=>qit a.makes b.makes ha.makes,rE fX ?_⟩
 refine wP ?_
 exact qad rfl
theorem qo3 (n lo hi:Int)(xs:List Int)(hl:xs.length≤1000000)(Q:IExit→(Nat→T)→Heap→Prop):∀(rest pre:List Int) (i:Nat),xs=pre++rest→pre.length=i→
 ((rest.all fun x=>btw x lo hi)=true→∀i:Int,Q (.exit 0) (ofL [(0,.list (qab xs)),(1,.int .i64 n),(2,.int .i64 lo),(3,.int .i64 hi),(9,.int .i64 i),(13,.bool false)]) (hpL []))→
 ((rest.all fun x=>btw x lo hi)=false→Q .ret (ofL [(8,.bool false)]) (hpL []))→
 WL Tryz.prog 28 qjo (ofL [(0,.list (qab xs)),(1,.int .i64 n),(2,.int .i64 lo),(3,.int .i64 hi),(9,.int .i64 i)]) (hpL []) Q:=by
 intro rest
 induction rest with
 | nil=>
  intro pre i he hn hQ0 hQ1
  have hd:decide ((i:Int)<((qab xs).length:Int))=false:=by simp[qah,he,hn]
  have fX:=@hd
  refine qaa qjo.eq_1 ?_
  refine wR0 200 [0,1,2,3,9,13] fX ?_
  refine wF @hd ?_
  refine wX ?_
  refine wN ?_
  exact hQ0 rfl _
 | cons k rest ih=>
  intro pre i he hn hQ0 hQ1
  have hlt:(i:Int)<((qab xs).length:Int):=by simp[qah,he];omega
  have hlb:i≤1000000:=by rw[he] at hl;simp at hl;omega
  have hd:decide ((i:Int)<((qab xs).length:Int))=true:=decide_eq_true hlt
  have hg:(qab xs).getD (i:Int).toNat .undef=.int .i64 k:=by rw[Int.toNat_natCast,he,←hn];exact qc4 _ k _
  have hw:IntKind.wrap .i64 ((i:Int)+1)=(i:Int)+1:=wrap64 (by omega) (by omega)
  have fX:=(cJ3 @hd @hg @hw)
  refine qaa qjo.eq_1 ?_
  refine wR0 200 [0,1,2,3,9,13] fX ?_
  refine wT @hd ?_
  refine wRn 300 [0,1,2,3,9,23] fX ?_
  refine rC fX ?_
  refine⟨_,qav k lo hi,rE fX ?_⟩
  refine wS cJ0 (fun hc300=>?_) (fun hc300=>?_)
  ·skip
   refine wR0 400 [8] fX ?_
   refine wE ?_
   refine wN ?_
   simp at hc300
   exact hQ1 (by simp[hc300])
  ·skip
   refine wR0 500 [0,1,2,3,9] fX ?_
   refine wN ?_
   simp at hc300
   have e:((k::rest).all fun x=>btw x lo hi)=(rest.all fun x=>btw x lo hi):=(by simp[hc300])
   rw[e] at hQ0 hQ1
   exact ih (pre++[k]) (i+1) (by simp[he]) (by simp;omega) hQ0 hQ1
def ql3 (xs:List Int)(n lo hi:Int):Bool:=(xs.all fun x=>btw x lo hi)&&((xs.length:Int)==n)
theorem qs8 (xs:List Int)(n lo hi:Int)(hl:xs.length≤1000000):TP Tryz.prog 149 [.list (qab xs),.int .i64 n,.int .i64 lo,.int .i64 hi] (.bool (ql3 xs n lo hi)):=by
 refine qan fn149 (by simp) ?_
 unfold i149
 simp only[argL]
 refine wR0 0 [0,1,2,3] cJ0 ?_
 refine wR0 100 [0,1,2,3,9] cJ0 ?_
 refine wL ?_
 refine qo3 n lo hi xs hl _ xs [] 0 rfl rfl ?_ ?_
 ·intro h i
  refine wN ?_
  refine wR0 600 [8] cJ0 ?_
  refine wP ?_
  exact qad (by rw[ql3,h,qah,Bool.true_and])
 ·intro h
  refine wN ?_
  exact⟨by simp,_,rfl,by exact qad (by rw[ql3,h,Bool.false_and])⟩
def fewR (xs:List Int)(n hi:Int):Bool:=decide ((xs.length:Int)≤n)&&xs.all fun x=>btw x 0 hi
theorem qq3 (xs:List Int)(n hi:Int)(hl:xs.length≤1000000):TP Tryz.prog 150 [.list (qab xs),.int .i64 n,.int .i64 hi] (.bool (fewR xs n hi)):=by
 refine qan fn150 (by simp) ?_
 unfold i150
 simp only[argL]
 refine wR0 0 [0,1,2] cJ0 ?_
 refine wRn 100 [6] cJ0 ?_
 refine rCi cJ0 ?_
 refine⟨_,fun hw=>qs8 xs ((qab xs).length:Int) 0 hi hl,rE cJ0 ?_⟩
 refine wP ?_
 exact qad (by simp[fewR,ql3,qah])
theorem qmn (m:Md)(hl:m.ranks.length≤1000000)(Q:IExit→(Nat→T)→Heap→Prop):∀(rest pre:List Int) (i:Nat),m.ranks=pre++rest→pre.length=i→
 ((rest.all fun x=>btw x 0 5)=true→∀i:Int,Q (.exit 0) (ofL [(1,.ref 0 10 0),(3,.int .i64 i),(22,.bool false)]) (hpL [(0,.live ⟨34,mdC m⟩)]))→
 ((rest.all fun x=>btw x 0 5)=false→Q .ret (ofL [(2,.bool false)]) (hpL [(0,.live ⟨34,mdC m⟩)]))→
 WL Tryz.prog 32 qnk (ofL [(1,.ref 0 10 0),(3,.int .i64 i)]) (hpL [(0,.live ⟨34,mdC m⟩)]) Q:=by
 intro rest
 simp only[mdC]
 induction rest with
 | nil=>
  intro pre i he hn hQ0 hQ1
  have hd:decide ((i:Int)<((qab m.ranks).length:Int))=false:=by simp[qah,he,hn]
  have fX:=@hd
  refine qaa qnk.eq_1 ?_
  refine wR0 600 [1,3,22] fX ?_
  refine wF @hd ?_
  refine wX ?_
  refine wN ?_
  exact hQ0 rfl _
 | cons k rest ih=>
  intro pre i he hn hQ0 hQ1
  have hlt:(i:Int)<((qab m.ranks).length:Int):=by simp[qah,he];omega
  have hlb:i≤1000000:=by rw[he] at hl;simp at hl;omega
  have hd:decide ((i:Int)<((qab m.ranks).length:Int))=true:=decide_eq_true hlt
  have hg:(qab m.ranks).getD (i:Int).toNat .undef=.int .i64 k:=by rw[Int.toNat_natCast,he,←hn];exact qc4 _ k _
  have hw:IntKind.wrap .i64 ((i:Int)+1)=(i:Int)+1:=wrap64 (by omega) (by omega)
  have fX:=(cJ3 @hd @hg @hw)
  refine qaa qnk.eq_1 ?_
  refine wR0 600 [1,3,22] fX ?_
  refine wT @hd ?_
  refine wRn 700 [1,3,31] fX ?_
  refine rC fX ?_
  refine⟨_,qav k 0 5,rE fX ?_⟩
  refine wS cJ0 (fun hc700=>?_) (fun hc700=>?_)
  ·skip
   refine wR0 800 [2] fX ?_
   refine wE ?_
   refine wN ?_
   simp at hc700
   exact hQ1 (by simp[hc700])
  ·skip
   refine wR0 900 [1,3] fX ?_
   refine wN ?_
   simp at hc700
   have e:((k::rest).all fun x=>btw x 0 5)=(rest.all fun x=>btw x 0 5):=(by simp[hc700])
   rw[e] at hQ0 hQ1
   exact ih (pre++[k]) (i+1) (by simp[he]) (by simp;omega) hQ0 hQ1
theorem qq9 (m:Md)(hm:m.fit):TP Tryz.prog 96 [qax m] (.bool (qcO m)):=by
 have hr:=hm.ranks
 refine qan fn96 (by simp) ?_
 unfold i96
 simp only[argL,qax,mdC]
 refine wR0 0 [1] cJ0 ?_
 refine wR0 100 [1,6] cJ0 ?_
 refine wS cJ0 (fun hc100=>?_) (fun hc100=>?_)
 ·skip
  refine wR0 200 [2] cJ0 ?_
  refine wP ?_
  exact qad (by simp at hc100;rw[qcO,if_pos hc100,qah])
 ·skip
  refine wR0 300 [1,17] cJ0 ?_
  refine wS cJ0 (fun hc300=>?_) (fun hc300=>?_)
  ·skip
   refine wR0 400 [2] cJ0 ?_
   refine wP ?_
   exact qad (by simp at hc100;simp[qah,qaf] at hc300;rw[qcO,if_neg (by simp[hc100])];simp;omega)
  ·skip
   refine wR0 500 [1,3] cJ0 ?_
   simp only[thn]
   have hlen:((m.ranks.length:Int)==m.letters.length)=true:=(by simpa [qah,qaf] using hc300)
   refine wL ?_
   refine qmn m hr _ m.ranks [] 0 rfl rfl ?_ ?_
   ·intro h i
    refine wN ?_
    refine wR0 1000 [2] cJ0 ?_
    refine wP ?_
    exact qad (by simp at hc100;rw[qcO,if_neg (by simp[hc100]),hlen,Bool.true_and,←List.all_eq_not_any_not,h])
   ·intro h
    refine wN ?_
    exact⟨by simp,_,rfl,by exact qad (by simp at hc100;rw[qcO,if_neg (by simp[hc100]),hlen,Bool.true_and,←List.all_eq_not_any_not,h])⟩
def timedR (m:Md)(r:Rl):Bool:=!(decide ((r.takes.length:Int) > 3) || !fewR r.makes 3 ((m.places.length:Int) - 1))&&!(r.takes.any fun t=>badTk m.places.length m.age t)&&ascI r.makes
theorem qaI (zs:List T):repl 1 zs=zs:=by simp[repl]
theorem qcp (zs:List T):repl 2 zs=zs++zs:=by simp[repl]
theorem repl3 (zs:List T):repl 3 zs=zs++(zs++zs):=by simp[repl]
theorem qaw:qab []=[]:=rfl
def qaK (n:Int):Ty:=.mk 2 n [] []
def qa3 (k:Int)(t:Ty):Ty:=.mk k 0 [] [t]
def qdr (l:Int)(lv:Int):Ty:=if lv > 1 then qa3 5 (.mk 3 0 [] [qaK l,qa3 5 (qaK l)]) else qa3 5 (qaK l)
theorem qb2 (l:Int):qdr l 1=qa3 5 (qaK l):=rfl
theorem qcb (l:Int):qdr l 2=qa3 5 (.mk 3 0 [] [qaK l,qa3 5 (qaK l)]):=rfl
def qaZ (ps:List Ty):Ty:=.mk 3 0 [] ps
theorem qdC (n:Int):TP Tryz.prog 113 [.int .i64 n] (qal (qaK n)):=by
 refine qan fn113 (by simp) ?_
 unfold i113
 simp only[argL]
 refine wR0 0 [0,2] cJ0 ?_
 refine wR0 100 [2] cJ0 ?_
 refine wP ?_
 (refine eG ?_;(try simp only[qaK,qal,qak,qaw]);(first | exact fF | exact fZt))
theorem qgQ (k tk ts:Int)(trs:List Int)(tps:List Ty):TP Tryz.prog 115 [.int .i64 k,qal (.mk tk ts trs tps)] (qal (qa3 k (.mk tk ts trs tps))):=by
 have fX:=(cJ2 @qaI @qcp)
 refine qan fn115 (by simp) ?_
 unfold i115
 simp only[argL,qal]
 refine wR0 0 [0,3,4] fX ?_
 refine wR0 100 [4] fX ?_
 refine wP ?_
 (refine eG ?_;(try simp only[qa3,qal,qak,qaw]);(first | exact fF | exact fZt))
theorem qiF (l:Int):TP Tryz.prog 114 [.int .i64 l,.int .i64 1] (qal (qdr l 1)):=by
 have hd:decide ((1:Int) > 1)=false:=rfl
 have h1:=qdC l
 have h2:=qgQ 5 2 l [] []
 simp only[qaK,qa3,qal,qaw,qak] at h1 h2
 have fX:=(cJ3 @hd @qaI @qcp)
 refine qan fn114 (by simp) ?_
 unfold i114
 simp only[argL]
 refine wR0 0 [0,1,4] fX ?_
 refine wRn 100 [0,1,4,5] fX ?_
 refine rC fX ?_
 refine⟨_,h1,rE fX ?_⟩
 refine wR0 200 [0,1,4,5,9] fX ?_
 refine wF @hd ?_
 refine wRn 400 [4] fX ?_
 refine rC fX ?_
 refine⟨_,h2,rE fX ?_⟩
 refine wP ?_
 (refine eG ?_;(try simp only[qb2,qaK,qa3,qal,qak,qaw]);(first | exact fF | exact fZt))
theorem qoL (l:Int):TP Tryz.prog 114 [.int .i64 l,.int .i64 2] (qal (qdr l 2)):=by
 have hd:decide ((2:Int) > 1)=true:=rfl
 have hw:IntKind.wrap .i64 ((2:Int) - 1)=1:=rfl
 have h1:=qdC l
 have h3:=qiF l
 have h4:=qgQ 5 3 0 [] [qaK l,qa3 5 (qaK l)]
 simp only[qaK,qa3,qal,qaw,qak] at h4
 simp only[qb2,qaK,qa3,qal,qaw,qak] at h1 h3
 have fX:=(cJ4 @hd @hw @qaI @qcp)
 refine qan fn114 (by simp) ?_
 unfold i114
 simp only[argL]
 refine wR0 0 [0,1,4] fX ?_
 refine wRn 100 [0,1,4,5] fX ?_
 refine rC fX ?_
 refine⟨_,h1,rE fX ?_⟩
 refine wR0 200 [0,1,4,5,9] fX ?_
 refine wT @hd ?_
 refine wRn 300 [4,5] fX ?_
 refine rC fX ?_
 refine⟨_,h3,rE fX ?_⟩
 refine wRn 400 [4] fX ?_
 refine rG [(305,.live ⟨_,_⟩)] fX ?_
 refine⟨_,_,h4,(by ((try simp only[qaK,qa3,qal,qak,qaw]);(first | exact fF | exact fZt))),rE fX ?_⟩
 refine wP ?_
 (refine eG ?_;(try simp only[qcb,qaK,qa3,qal,qak,qaw]);(first | exact fF | exact fZt))
end
section
open Go.RowKit
theorem qfp (n:Int)(v:V):ofV (qaK n) v=true↔0≤v.n∧v.n<n∧v.kids=[]:=by
 rw[qaK,ofV]
 simp[and_assoc]
theorem qpd (k:V)(ks:List V)(n most:Int):qcI (k::ks) n most=if n≤most then qcI ks (n+qbt k (most - n)) most else n:=by rw[qcI]
theorem qrm (n most:Int):qcI [] n most=n:=by rw[qcI]
theorem qnW (a:Int)(ks:List V)(most:Int):qbt (.mk a ks) most=qcI ks 1 most:=by rw[qbt]
theorem qh8:∀l:List V,qbq l=true↔Asc l
 | []=>by simp[qbq,Asc]
 | [x]=>by simp[qbq,Asc]
 | x::y::l=>by
  have ih:=qh8 (y::l)
  simp only[qbq,Bool.and_eq_true,ih]
  constructor
  ·rintro ⟨h1,h2⟩
   have h1':¬cmpV y x<0:=by have:=qca x y;simp at h1;omega
   refine List.pairwise_cons.2 ⟨fun z hz=>?_,h2⟩
   rcases List.mem_cons.1 hz with rfl | hz
   ·exact h1'
   ·exact qd0 h1' ((List.pairwise_cons.1 h2).1 z hz)
  ·intro h
   have h':=List.pairwise_cons.1 h
   have:=h'.1 y (List.mem_cons_self ..)
   have n1:=qca x y
   exact⟨by simp;omega,h'.2⟩
end
end Go.Proofs.YtpplncjaihgimaaGreat
