/- Contracts of functions of the program, for all arguments that they name. -/
import Derived.Test.YtkbjpglehdhjfaaGreatDoorK06
namespace Go.Proofs.YtkbjpglehdhjfaaGreatDoor
set_option linter.unusedVariables false
section
open Go.RowKit
set_option maxHeartbeats 2000000
def letB (c:Int):Bool:=decide (c≥97)&&decide (c≤122)
def digB (c:Int):Bool:=decide (c≥48)&&decide (c≤57)
def qfp (c:Int):Bool:=letB c || digB c || c==95
theorem qkL (c:Int):TP Tryz.prog 218 [.int .u8 c] (.bool (letB c)):=by
 refine qag fn218 (by simp) ?_
 unfold i218
 simp only[argL]
 refine wR0 0 [0] cJ0 ?_
 refine wR0 100 [2] cJ0 ?_
 refine wP ?_
 exact qac rfl
theorem qrH (c:Int):TP Tryz.prog 248 [.int .u8 c] (.bool (digB c)):=by
 refine qag fn248 (by simp) ?_
 unfold i248
 simp only[argL]
 refine wR0 0 [0] cJ0 ?_
 refine wR0 100 [2] cJ0 ?_
 refine wP ?_
 exact qac rfl
theorem qup (c:Int):TP Tryz.prog 220 [.int .u8 c] (.bool (qfp c)):=by
 refine qag fn220 (by simp) ?_
 unfold i220
 simp only[argL]
 refine wR0 0 [0] cJ0 ?_
 refine wRn 100 [2] cJ0 ?_
 refine rC cJ0 ?_
 refine⟨_,qkL c,rN cJ0 ?_⟩
 refine rCi cJ0 ?_
 refine⟨_,fun hw=>qrH c,rE cJ0 ?_⟩
 refine wP ?_
 exact qac rfl
def runN (s:ByteArray):Nat→Int→Int
 | 0,i=>i
 | n+1,i=>if qfp (qcf s i)=true then runN s n (i+1) else i
theorem qsE (s:ByteArray)(hs:s.size≤1000000)(Q:IExit→(Nat→T)→Heap→Prop):∀(n i:Nat),i+n=s.size→
 (∀b,Q (.exit 0) (ofL [(0,.str s),(1,.fn 220 []),(5,.int .i64 (runN s n i)),(16,b)]) (hpL []))→
 WL Tryz.prog 20 qjC (ofL [(0,.str s),(1,.fn 220 []),(5,.int .i64 i)]) (hpL []) Q:=by
 intro n
 induction n with
 | zero=>
  intro i hi hQ
  have hd:decide ((i:Int)<(s.size:Int))=false:=decide_eq_false (by omega)
  have fX:=@hd
  refine qaa qjC.eq_1 ?_
  refine wR0 200 [0,1,5,16] fX ?_
  refine wF @hd ?_
  refine wX ?_
  refine wN ?_
  exact hQ _
 | succ n ih=>
  intro i hi hQ
  have hlt:(i:Int).toNat<s.size:=by omega
  have hd:decide ((i:Int)<(s.size:Int))=true:=decide_eq_true (by omega)
  have hw:IntKind.wrap .i64 ((i:Int)+1)=(i:Int)+1:=wrap64 (by omega) (by omega)
  have fX:=(cJ2 @hd @hw)
  refine qaa qjC.eq_1 ?_
  refine wRn 200 [0,1,5,16] fX ?_
  refine rCv fX ?_
  refine⟨_,qup (qcf s i),rE fX ?_⟩
  refine wS cJ0 (fun hc200=>?_) (fun hc200=>?_)
  ·skip
   refine wR0 300 [0,1,5] fX ?_
   refine wN ?_
   have e:runN s (n+1) i=runN s n ((i+1:Nat):Int):=(by rw[runN,if_pos hc200];rfl)
   rw[e] at hQ
   exact ih (i+1) (by omega) hQ
  ·skip
   refine wX ?_
   refine wN ?_
   have e:runN s (n+1) i=i:=(by rw[runN,if_neg (by rw[hc200];simp)])
   rw[e] at hQ
   exact hQ _
theorem run_tp (s:ByteArray)(hs:s.size≤1000000):TP Tryz.prog 219 [.str s,.fn 220 []] (.int .i64 (runN s s.size 0)):=by
 refine qag fn219 (by simp) ?_
 unfold i219
 simp only[argL]
 refine wR0 0 [0,1] cJ0 ?_
 refine wR0 100 [0,1,5] cJ0 ?_
 refine wL ?_
 refine qsE s hs _ s.size 0 (by omega) ?_
 ·intro b
  refine wN ?_
  refine wR0 400 [4] cJ0 ?_
  refine wP ?_
  exact qaC rfl
def qdQ (s:ByteArray):Bool:=!(s.toList==ByteArray.toList ⟨#[]⟩)&&decide ((s.size:Int)≤12)&&letB (qcf s 0)&&(runN s s.size 0==(s.size:Int))
theorem qno {s:ByteArray}(h:(s.toList==ByteArray.toList ⟨#[]⟩)=false):0<s.size:=by
 rcases Nat.eq_zero_or_pos s.size with h0 | h0
 ·exfalso
  have hs:s=⟨#[]⟩:=by
   obtain⟨d⟩:=s
   have:d.size=0:=h0
   congr 1
   exact Array.eq_empty_of_size_eq_zero this
  rw[hs] at h
  simp at h
 ·exact h0
theorem ql4 (s:ByteArray)(hs:s.size≤1000000):TP Tryz.prog 174 [.str s] (.bool (qdQ s)):=by
 rcases he:(s.toList==ByteArray.toList ⟨#[]⟩) with _ | _
 ·have hp:=qno he
  have h0:(0:Int).toNat<s.size:=hp
  refine qag fn174 (by simp) ?_
  unfold i174
  simp only[argL]
  refine wR0 0 [0] cJ0 ?_
  refine wRn 100 [2] (cJ6 @binS.eq_1 @binS.eq_2 @binS.eq_3 @he @Bool.not_false @Bool.true_and) ?_
  refine rCi (cJ6 @binS.eq_1 @binS.eq_2 @binS.eq_3 @he @Bool.not_false @Bool.true_and) ?_
  refine⟨_,fun hw=>qkL (qcf s 0),rN (cJ6 @binS.eq_1 @binS.eq_2 @binS.eq_3 @he @Bool.not_false @Bool.true_and) ?_⟩
  refine rCi (cJ6 @binS.eq_1 @binS.eq_2 @binS.eq_3 @he @Bool.not_false @Bool.true_and) ?_
  refine⟨_,fun hw=>run_tp s hs,rE (cJ6 @binS.eq_1 @binS.eq_2 @binS.eq_3 @he @Bool.not_false @Bool.true_and) ?_⟩
  refine wP ?_
  exact qac (by rw[qdQ,he];simp[Bool.and_assoc])
 ·refine qag fn174 (by simp) ?_
  unfold i174
  simp only[argL]
  refine wR0 0 [0] cJ0 ?_
  refine wR0 100 [2] (cJ6 @binS.eq_1 @binS.eq_2 @binS.eq_3 @he @Bool.not_true @Bool.false_and) ?_
  refine wP ?_
  exact qac (by rw[qdQ,he];simp)
def idxS (s:ByteArray):List ByteArray→Int→Int
 | [],_ => -1
 | k::ks,i=>if (s.toList==k.toList)=true then i else idxS s ks (i+1)
def inS (s:ByteArray)(l:List ByteArray):Bool:=l.any fun k=>s.toList==k.toList
theorem qps (s:ByteArray):∀(ks:List ByteArray) (i:Int),0≤i→decide (idxS s ks i≥0)=inS s ks
 | [],i,_=>rfl
 | k::ks,i,hi=>by
  by_cases hp:(s.toList==k.toList)=true
  ·simp only[idxS,inS,List.any_cons,hp,Bool.true_or];exact decide_eq_true hi
  ·simp only[idxS,inS,List.any_cons,Bool.eq_false_iff.2 hp,Bool.false_or];exact qps s ks (i+1) (by omega)
theorem ql0 (s:ByteArray)(xs:List ByteArray)(hl:xs.length≤1000000)(Q:IExit→(Nat→T)→Heap→Prop):∀(rest pre:List ByteArray) (i:Nat),xs=pre++rest→pre.length=i→
 (idxS s rest i = -1→∀i:Int,Q (.exit 0) (ofL [(0,.list (qaq xs)),(1,.str s),(7,.int .i64 (qaq xs).length),(8,.int .i64 i),(9,.bool false)]) (hpL []))→
 (idxS s rest i ≠ -1→Q .ret (ofL [(4,.int .i64 (idxS s rest i))]) (hpL []))→
 WL Tryz.prog 19 qjD (ofL [(0,.list (qaq xs)),(1,.str s),(7,.int .i64 (qaq xs).length),(8,.int .i64 i)]) (hpL []) Q:=by
 intro rest
 induction rest with
 | nil=>
  intro pre i he hn hQ0 hQ1
  have hd:decide ((i:Int)<((qaq xs).length:Int))=false:=by simp[qai,he,hn]
  have fX:=@hd
  refine qaa qjD.eq_1 ?_
  refine wR0 200 [0,1,7,8,9] fX ?_
  refine wF @hd ?_
  refine wX ?_
  refine wN ?_
  exact hQ0 rfl _
 | cons k rest ih=>
  intro pre i he hn hQ0 hQ1
  have hlt:(i:Int)<((qaq xs).length:Int):=by simp[qai,he];omega
  have hlb:i≤1000000:=by rw[he] at hl;simp at hl;omega
  have hd:decide ((i:Int)<((qaq xs).length:Int))=true:=decide_eq_true hlt
  have hg:(qaq xs).getD (i:Int).toNat .undef=.str k:=by rw[Int.toNat_natCast,he,←hn];exact qdB _ k _
  have hw:IntKind.wrap .i64 ((i:Int)+1)=(i:Int)+1:=wrap64 (by omega) (by omega)
  have fX:=(cJ6 @hd @hg @hw @binS.eq_1 @binS.eq_2 @binS.eq_3)
  refine qaa qjD.eq_1 ?_
  refine wR0 200 [0,1,7,8,9] fX ?_
  refine wT @hd ?_
  refine wR0 300 [0,1,5,7,8] fX ?_
  refine wR0 400 [0,1,5,7,8,16] fX ?_
  refine wS cJ0 (fun hc400=>?_) (fun hc400=>?_)
  ·skip
   refine wR0 500 [4] fX ?_
   refine wE ?_
   refine wN ?_
   have e:idxS s (k::rest) i=i:=(by rw[idxS,if_pos hc400])
   rw[e] at hQ1
   exact hQ1 (by omega)
  ·skip
   refine wR0 600 [0,1,7,8] fX ?_
   refine wN ?_
   have e:idxS s (k::rest) i=idxS s rest ((i+1:Nat):Int):=(by rw[idxS,if_neg (by rw[hc400];simp)];rfl)
   rw[e] at hQ0 hQ1
   have:=ih (pre++[k]) (i+1) (by simp[he]) (by simp;omega) hQ0 hQ1
   simpa using this
theorem qqL (s:ByteArray)(xs:List ByteArray)(hl:xs.length≤1000000):TP Tryz.prog 221 [.list (qaq xs),.str s] (.int .i64 (idxS s xs 0)):=by
 refine qag fn221 (by simp) ?_
 unfold i221
 simp only[argL]
 refine wR0 0 [0,1] cJ0 ?_
 refine wR0 100 [0,1,7,8] cJ0 ?_
 refine wL ?_
 refine ql0 s xs hl _ xs [] 0 rfl rfl ?_ ?_
 ·intro h i
  refine wN ?_
  refine wR0 700 [4] cJ0 ?_
  refine wP ?_
  exact qaC h.symm
 ·intro h
  refine wN ?_
  exact⟨by simp,_,rfl,by exact .same rfl⟩
theorem qgJ (s:ByteArray)(xs:List ByteArray)(hl:xs.length≤1000000):TP Tryz.prog 175 [.list (qaq xs),.str s] (.bool (inS s xs)):=by
 refine qag fn175 (by simp) ?_
 unfold i175
 simp only[argL]
 refine wR0 0 [0,1] cJ0 ?_
 refine wRn 100 [4] cJ0 ?_
 refine rC cJ0 ?_
 refine⟨_,qqL s xs hl,rE cJ0 ?_⟩
 refine wP ?_
 exact qac (qps s xs 0 (by omega))
def kws:List ByteArray:=[⟨#[109,111,100,101,108]⟩,⟨#[115,116,97,116,101,115]⟩,⟨#[112,108,97,99,101,115]⟩,⟨#[108,101,116,116,101,114,115]⟩,⟨#[108,101,118,101,108,115]⟩,⟨#[97,103,101]⟩,⟨#[114,117,108,101]⟩,⟨#[110,101,101,100]⟩,⟨#[103,105,118,101]⟩,⟨#[109,111,118,101]⟩,⟨#[101,109,112,116,121]⟩,⟨#[115,101,110,100]⟩,⟨#[114,101,99,101,105,118,101]⟩,⟨#[112,97,116,104]⟩,⟨#[110,101,120,116]⟩,⟨#[116,97,107,101]⟩,⟨#[109,97,107,101]⟩,⟨#[115,116,97,114,116]⟩]
theorem qix (l:List ByteArray):Ones (qaq l):=by
 intro c hc
 obtain⟨x,_,rfl⟩:=List.mem_map.1 hc
 rfl
theorem qb5 (l:List ByteArray):flat (qaq l)=qaq l:=by
 induction l with
 | nil=>rfl
 | cons x l ih=>simp only[qaq,List.map_cons] at ih ⊢;rw[qbH,ih];rfl
theorem qgA (l:List ByteArray):qc3 (esz 0) (qaq l):=by
 intro c hc
 obtain⟨x,_,rfl⟩:=List.mem_map.1 hc
 rfl
theorem qdU (l:List ByteArray):sizedB 0 (qaq l)=true:=by
 rw[sizedB,List.all_eq_true]
 intro c hc
 obtain⟨x,_,rfl⟩:=List.mem_map.1 hc
 rfl
theorem qjn {H:Heap}{id ty n tot:Nat}(l:List ByteArray)(hb:H id=.live ⟨ty,qaq l⟩)(hn:n=l.length)(ht:tot=l.length):Frz H (.sl id tot 0 0 n) (.list (qaq l)):=by
 subst hn ht
 refine Frz.sl hb (qai l) (by simp[esz]) (qai l) (qgA l) (by rw[qb5];exact qix l) fun k hk=>?_
 rw[qb5,Nat.zero_add]
 exact .same (qbk (qaO _ l) k)
theorem qgf {H:Heap}{D:Nat→Bool}{id ty n tot:Nat}(l:List ByteArray)(hb:H id=.live ⟨ty,qaq l⟩)(hd:D id=false)(hn:n=l.length)(ht:tot=l.length):Fz H D (.sl id tot 0 0 n) (.list (qaq l)):=by
 subst hn ht
 refine Fz.sl hb hd (qai l) (by simp[esz]) (qai l) (qgA l) (by rw[qb5];exact qix l) fun k hk=>?_
 rw[qb5,Nat.zero_add]
 exact .same (qbk (qaO _ l) k)
def kwS (s:ByteArray):Bool:=inS s kws
theorem qsw (s:ByteArray)(xs:List ByteArray)(hl:xs.length≤1000000)(hh:List (Nat×Slot))(Q:IExit→(Nat→T)→Heap→Prop):∀(rest pre:List ByteArray) (i:Nat),xs=pre++rest→pre.length=i→
 ((rest.any fun k=>k.toList==s.toList)=false→∀i:Int,Q (.exit 0) (ofL [(0,.str s),(3,.list (qaq xs)),(4,.int .i64 i),(9,.bool false)]) (hpL hh))→
 ((rest.any fun k=>k.toList==s.toList)=true→Q .ret (ofL [(2,.bool true)]) (hpL hh))→
 WL Tryz.prog 18 qjq (ofL [(0,.str s),(3,.list (qaq xs)),(4,.int .i64 i)]) (hpL hh) Q:=by
 intro rest
 induction rest with
 | nil=>
  intro pre i he hn hQ0 hQ1
  have hd:decide ((i:Int)<((qaq xs).length:Int))=false:=by simp[qai,he,hn]
  have fX:=@hd
  refine qaa qjq.eq_1 ?_
  refine wR0 300 [0,3,4,9] fX ?_
  refine wF @hd ?_
  refine wX ?_
  refine wN ?_
  exact hQ0 rfl _
 | cons k rest ih=>
  intro pre i he hn hQ0 hQ1
  have hlt:(i:Int)<((qaq xs).length:Int):=by simp[qai,he];omega
  have hlb:i≤1000000:=by rw[he] at hl;simp at hl;omega
  have hd:decide ((i:Int)<((qaq xs).length:Int))=true:=decide_eq_true hlt
  have hg:(qaq xs).getD (i:Int).toNat .undef=.str k:=by rw[Int.toNat_natCast,he,←hn];exact qdB _ k _
  have hw:IntKind.wrap .i64 ((i:Int)+1)=(i:Int)+1:=wrap64 (by omega) (by omega)
  have fX:=(cJ6 @hd @hg @hw @binS.eq_1 @binS.eq_2 @binS.eq_3)
  refine qaa qjq.eq_1 ?_
  refine wR0 300 [0,3,4,9] fX ?_
  refine wT @hd ?_
  refine wR0 400 [0,3,4,17] fX ?_
  refine wS cJ0 (fun hc400=>?_) (fun hc400=>?_)
  ·skip
   refine wR0 500 [2] fX ?_
   refine wE ?_
   refine wN ?_
   exact hQ1 (by rw[List.any_cons,hc400,Bool.true_or])
  ·skip
   refine wR0 600 [0,3,4] fX ?_
   refine wN ?_
   have e:((k::rest).any fun k=>k.toList==s.toList)=(rest.any fun k=>k.toList==s.toList):=(by rw[List.any_cons,hc400,Bool.false_or])
   rw[e] at hQ0 hQ1
   exact ih (pre++[k]) (i+1) (by simp[he]) (by simp;omega) hQ0 hQ1
theorem qtt (s:ByteArray):kwS s=kws.any fun k=>k.toList==s.toList:=by
 unfold kwS inS
 congr 1
 funext k
 rw[Bool.eq_iff_iff,beq_iff_eq,beq_iff_eq];exact eq_comm
set_option maxHeartbeats 2000000 in
theorem qlV (s:ByteArray):TP Tryz.prog 133 [.str s] (.bool (kwS s)):=by
 have hrp:repl 18 [T.str ⟨#[]⟩]=[.str ⟨#[]⟩,.str ⟨#[]⟩,.str ⟨#[]⟩,.str ⟨#[]⟩,.str ⟨#[]⟩,.str ⟨#[]⟩,.str ⟨#[]⟩,.str ⟨#[]⟩,.str ⟨#[]⟩,.str ⟨#[]⟩,.str ⟨#[]⟩,.str ⟨#[]⟩,.str ⟨#[]⟩,.str ⟨#[]⟩,.str ⟨#[]⟩,.str ⟨#[]⟩,.str ⟨#[]⟩,.str ⟨#[]⟩]:=rfl
 have fX:=@hrp
 refine qag fn133 (by simp) ?_
 unfold i133
 simp only[argL]
 refine wR0 0 [0] fX ?_
 refine wR0 100 [0,3] fX ?_
 simp only[thn]
 refine qbZ (l':=[(0,.str s),(3,.list (qaq kws))]) (hl':=[(100,.dead)]) [] (.cons (.same rfl) (.cons (qgf (ty:=9) kws rfl rfl rfl rfl) .nil)) (.dead rfl (fun h=>by cases h) .nil) ?_
 refine wR0 200 [0,3,4] fX ?_
 refine wL ?_
 refine qsw s kws (by decide) _ _ kws [] 0 rfl rfl ?_ ?_
 ·intro h i
  refine wN ?_
  refine wR0 700 [2] fX ?_
  refine wP ?_
  exact qac (by rw[qtt,h])
 ·intro h
  refine wN ?_
  exact⟨by simp,_,rfl,by exact qac (by rw[qtt,h])⟩
theorem qn9 (c:Int):TP Tryz.prog 181 [.int .u8 c] (.bool (qfp c)):=by
 rcases h1:(decide (c≥97)&&decide (c≤122)) with _ | _
 ·refine qag fn181 (by simp) ?_
  unfold i181
  simp only[argL]
  refine wR0 0 [0] cJ0 ?_
  refine wR0 100 [2] @h1 ?_
  refine wP ?_
  exact qac (by simp only[qfp,letB,digB,h1,Bool.false_or])
 ·refine qag fn181 (by simp) ?_
  unfold i181
  simp only[argL]
  refine wR0 0 [0] cJ0 ?_
  refine wR0 100 [2] @h1 ?_
  refine wP ?_
  exact qac (by simp only[qfp,letB,h1,Bool.true_or])
def allN (s:ByteArray):Nat→Int→Bool
 | 0,i=>true
 | n+1,i=>qfp (qcf s i)&&allN s n (i+1)
theorem qqC (s:ByteArray):∀(n:Nat) (i:Int),i≤runN s n i∧runN s n i≤i+n
 | 0,i=>by simp[runN]
 | n+1,i=>by
  have:=qqC s n (i+1)
  unfold runN
  split<;>omega
theorem qnh (s:ByteArray):∀(n:Nat) (i:Int),(runN s n i==i+n)=allN s n i
 | 0,i=>by simp[runN,allN]
 | n+1,i=>by
  have h:=qnh s n (i+1)
  have hl:=qqC s n (i+1)
  cases hp:qfp (qcf s i) with
  | true=>
   rw[runN,if_pos hp,allN,hp,Bool.true_and,←h]
   congr 1
   omega
  | false=>
   rw[runN,if_neg (by rw[hp];simp),allN,hp,Bool.false_and]
   simp;omega
def qou (s:ByteArray):Bool:=allN s s.size 0&&(decide ((s.size:Int)≥1)&&decide ((s.size:Int)≤12)&&decide (qcf s 0≥97)&&decide (qcf s 0≤122))
theorem qtd (s:ByteArray):qou s=qdQ s:=by
 have h:=qnh s s.size 0
 rw[Int.zero_add] at h
 unfold qou qdQ letB
 rw[h]
 have he:(!(s.toList==ByteArray.toList ⟨#[]⟩))=decide ((s.size:Int)≥1):=by
  cases hq:(s.toList==ByteArray.toList ⟨#[]⟩) with
  | false=>have:=qno hq;simp;omega
  | true=>
   have hs:s=⟨#[]⟩:=by
    have h1:s.toList=ByteArray.toList ⟨#[]⟩:=by simpa using hq
    rw[ByteArray.toList_eq,ByteArray.toList_eq] at h1
    obtain⟨⟨d⟩⟩:=s
    simp at h1
    subst h1;rfl
   rw[hs];rfl
 rw[he]
 generalize allN s s.size 0=a
 generalize decide ((s.size:Int)≥1)=b
 generalize decide ((s.size:Int)≤12)=c
 generalize decide (qcf s 0≥97)=d
 generalize decide (qcf s 0≤122)=e
 cases a<;>cases b<;>cases c<;>cases d<;>cases e<;>rfl
theorem qiU (s:ByteArray)(hs:s.size≤1000000)(Q:IExit→(Nat→T)→Heap→Prop):∀(n i:Nat),i+n=s.size→
 (allN s n i=true→∀i:Int,Q (.exit 0) (ofL [(0,.str s),(3,.int .i64 i),(7,.bool false)]) (hpL []))→
 (allN s n i=false→Q .ret (ofL [(2,.bool false)]) (hpL []))→
 WL Tryz.prog 33 qjp (ofL [(0,.str s),(3,.int .i64 i)]) (hpL []) Q:=by
 intro n
 induction n with
 | zero=>
  intro i hi hQ0 hQ1
  have hd:decide ((i:Int)<(s.size:Int))=false:=decide_eq_false (by omega)
  have fX:=@hd
  refine qaa qjp.eq_1 ?_
  refine wR0 200 [0,3,7] fX ?_
  refine wF @hd ?_
  refine wX ?_
  refine wN ?_
  exact hQ0 rfl _
 | succ n ih=>
  intro i hi hQ0 hQ1
  have hlt:(i:Int).toNat<s.size:=by omega
  have hd:decide ((i:Int)<(s.size:Int))=true:=decide_eq_true (by omega)
  have hw:IntKind.wrap .i64 ((i:Int)+1)=(i:Int)+1:=wrap64 (by omega) (by omega)
  have fX:=(cJ2 @hd @hw)
  refine qaa qjp.eq_1 ?_
  refine wR0 200 [0,3,7] fX ?_
  refine wT @hd ?_
  refine wRn 300 [0,3,14] fX ?_
  refine rC fX ?_
  refine⟨_,qn9 (qcf s i),rE fX ?_⟩
  refine wS cJ0 (fun hc300=>?_) (fun hc300=>?_)
  ·skip
   refine wR0 400 [2] fX ?_
   refine wE ?_
   refine wN ?_
   simp at hc300
   exact hQ1 (by rw[allN,hc300];rfl)
  ·skip
   refine wR0 500 [0,3] fX ?_
   refine wN ?_
   simp at hc300
   have e:allN s (n+1) i=allN s n ((i+1:Nat):Int):=(by rw[allN,hc300];rfl)
   rw[e] at hQ0 hQ1
   exact ih (i+1) (by omega) hQ0 hQ1
theorem qnk (s:ByteArray)(hs:s.size≤1000000):TP Tryz.prog 132 [.str s] (.bool (qdQ s)):=by
 rw[←qtd]
 rcases h1:decide ((s.size:Int)≥1) with _ | _
 ·refine qag fn132 (by simp) ?_
  unfold i132
  simp only[argL]
  refine wR0 0 [0] cJ0 ?_
  refine wR0 100 [0,3] cJ0 ?_
  refine wL ?_
  refine qiU s hs _ s.size 0 (by omega) ?_ ?_
  ·intro h i
   refine wN ?_
   refine wR0 600 [2] @h1 ?_
   refine wP ?_
   exact qac (by have h':allN s s.size 0=true:=h;rw[qou,h',h1];simp)
  ·intro h
   refine wN ?_
   exact⟨by simp,_,rfl,by exact qac (by have h':allN s s.size 0=false:=h;rw[qou,h'];simp)⟩
 ·have h0:(0:Int).toNat<s.size:=by simp at h1;simp;omega
  refine qag fn132 (by simp) ?_
  unfold i132
  simp only[argL]
  refine wR0 0 [0] cJ0 ?_
  refine wR0 100 [0,3] cJ0 ?_
  refine wL ?_
  refine qiU s hs _ s.size 0 (by omega) ?_ ?_
  ·intro h i
   refine wN ?_
   refine wR0 600 [2] @h1 ?_
   refine wP ?_
   exact qac (by have h':allN s s.size 0=true:=h;rw[qou,h',h1];simp)
  ·intro h
   refine wN ?_
   exact⟨by simp,_,rfl,by exact qac (by have h':allN s s.size 0=false:=h;rw[qou,h'];simp)⟩
def eqF {α:Type}(p:α→α→Bool):List α→List α→Bool
 | [],[]=>true
 | x::xs,y::ys=>p x y&&eqF p xs ys
 | _,_=>false
theorem qjh {α:Type}(p:α→α→Bool)(h:∀x,p x x=true):∀xs,eqF p xs xs=true
 | []=>rfl
 | x::xs=>by simp[eqF,h,qjh p h xs]
def eqI (a b:Int):Bool:=a==b
def eqTk (a b:Tk):Bool:=a.place==b.place&&(a.low==b.low&&(a.high==b.high&&true))
def qim (xs ys:List Int):Bool:=(xs.length==ys.length)&&eqF eqI xs ys
def qk7 (xs ys:List Tk):Bool:=(xs.length==ys.length)&&eqF eqTk xs ys
theorem qiV (xs:List Int):qim xs xs=true:=by simp[qim,qjh eqI (fun x=>by simp[eqI])]
theorem qlZ (xs:List Tk):qk7 xs xs=true:=by simp[qk7,qjh eqTk (fun x=>by simp[eqTk])]
theorem qqF (xs:List Int):qim xs []=(xs.length==0):=by cases xs<;>simp[qim,eqF]
theorem qoi (xs:List Tk):qk7 xs []=(xs.length==0):=by cases xs<;>simp[qk7,eqF]
def qfd (x:Int):Bool:=btw x 0 16
def qdl (m:Md)(r:Rl):Bool:=((r.need.length:Int)==m.places.length)&&((r.give.length:Int)==m.places.length)&&r.need.all qfd&&r.give.all qfd
def qgF (m:Md)(r:Rl):Bool:=((r.move.length:Int)==0) || (((r.move.length:Int)==m.places.length)&&r.move.all fun x=>btw x (-1) ((m.places.length:Int) - 1))
def actsM (m:Md)(r:Rl):Bool:=if r.act=0 then (r.chan==0)&&(r.lett==0) else btw r.act 1 2&&btw r.chan 0 ((m.places.length:Int) - 1)&&btw r.lett 0 ((m.letters.length:Int) - 1)
def pathsM (m:Md)(r:Rl):Bool:=decide ((r.path.length:Int)≤m.levels)&&decide ((r.next.length:Int)≤m.levels)&&decide ((r.path.length:Int)+r.next.length > 0)&&(r.path.all fun x=>btw x 0 ((m.letters.length:Int) - 1))&&r.next.all fun x=>btw x 0 ((m.letters.length:Int) - 1)
def ascI:List Int→Bool
 | a::b::l=>!decide (b<a)&&ascI (b::l)
 | _=>true
def badTk (n age:Int)(t:Tk):Bool:=!btw t.place 0 (n - 1) || decide (t.low<0) || decide (t.low > t.high) || decide (t.high > age+1)
def agesM (m:Md)(r:Rl):Bool:=decide ((r.takes.length:Int)≤3)&&decide ((r.makes.length:Int)≤3)&&ascI r.makes&&(r.makes.all fun x=>btw x 0 ((m.places.length:Int) - 1))&&!r.takes.any fun t=>badTk m.places.length m.age t
def qoh (a b:Rl):Bool:=
 (a.name.toList==b.name.toList)&&(a.from_==b.from_)&&(a.to_==b.to_)&&qim a.need b.need&&qim a.give b.give&&qim a.move b.move&&(a.chan==b.chan)&&(a.act==b.act)&&(a.lett==b.lett)&&
  qim a.path b.path&&qim a.next b.next&&qk7 a.takes b.takes&&qim a.makes b.makes&&(a.second==b.second)
theorem qoa (n lo hi:Int)(xs:List Int)(hl:xs.length≤1000000)(Q:IExit→(Nat→T)→Heap→Prop):∀(rest pre:List Int) (i:Nat),xs=pre++rest→pre.length=i→
 ((rest.all fun x=>btw x lo hi)=true→∀i:Int,Q (.exit 0) (ofL [(0,.list (qad xs)),(1,.int .i64 n),(2,.int .i64 lo),(3,.int .i64 hi),(9,.int .i64 i),(13,.bool false)]) (hpL []))→
 ((rest.all fun x=>btw x lo hi)=false→Q .ret (ofL [(8,.bool false)]) (hpL []))→
 WL Tryz.prog 28 qjr (ofL [(0,.list (qad xs)),(1,.int .i64 n),(2,.int .i64 lo),(3,.int .i64 hi),(9,.int .i64 i)]) (hpL []) Q:=by
 intro rest
 induction rest with
 | nil=>
  intro pre i he hn hQ0 hQ1
  have hd:decide ((i:Int)<((qad xs).length:Int))=false:=by simp[qae,he,hn]
  have fX:=@hd
  refine qaa qjr.eq_1 ?_
  refine wR0 200 [0,1,2,3,9,13] fX ?_
  refine wF @hd ?_
  refine wX ?_
  refine wN ?_
  exact hQ0 rfl _
 | cons k rest ih=>
  intro pre i he hn hQ0 hQ1
  have hlt:(i:Int)<((qad xs).length:Int):=by simp[qae,he];omega
  have hlb:i≤1000000:=by rw[he] at hl;simp at hl;omega
  have hd:decide ((i:Int)<((qad xs).length:Int))=true:=decide_eq_true hlt
  have hg:(qad xs).getD (i:Int).toNat .undef=.int .i64 k:=by rw[Int.toNat_natCast,he,←hn];exact qcN _ k _
  have hw:IntKind.wrap .i64 ((i:Int)+1)=(i:Int)+1:=wrap64 (by omega) (by omega)
  have fX:=(cJ3 @hd @hg @hw)
  refine qaa qjr.eq_1 ?_
  refine wR0 200 [0,1,2,3,9,13] fX ?_
  refine wT @hd ?_
  refine wRn 300 [0,1,2,3,9,23] fX ?_
  refine rC fX ?_
  refine⟨_,qat k lo hi,rE fX ?_⟩
  refine wS cJ0 (fun hc300=>?_) (fun hc300=>?_)
  ·skip
   refine wR0 400 [8] fX ?_
   refine wE ?_
   refine wN ?_
   simp at hc300
   exact hQ1 (by simp[hc300])
  ·skip
   refine wR0 500 [0,1,2,3,9] fX ?_
   refine wN ?_
   simp at hc300
   have e:((k::rest).all fun x=>btw x lo hi)=(rest.all fun x=>btw x lo hi):=(by simp[hc300])
   rw[e] at hQ0 hQ1
   exact ih (pre++[k]) (i+1) (by simp[he]) (by simp;omega) hQ0 hQ1
def qkN (xs:List Int)(n lo hi:Int):Bool:=(xs.all fun x=>btw x lo hi)&&((xs.length:Int)==n)
theorem qfV (xs:List Int)(n lo hi:Int)(hl:xs.length≤1000000):TP Tryz.prog 134 [.list (qad xs),.int .i64 n,.int .i64 lo,.int .i64 hi] (.bool (qkN xs n lo hi)):=by
 refine qag fn134 (by simp) ?_
 unfold i134
 simp only[argL]
 refine wR0 0 [0,1,2,3] cJ0 ?_
 refine wR0 100 [0,1,2,3,9] cJ0 ?_
 refine wL ?_
 refine qoa n lo hi xs hl _ xs [] 0 rfl rfl ?_ ?_
 ·intro h i
  refine wN ?_
  refine wR0 600 [8] cJ0 ?_
  refine wP ?_
  exact qac (by rw[qkN,h,qae,Bool.true_and])
 ·intro h
  refine wN ?_
  exact⟨by simp,_,rfl,by exact qac (by rw[qkN,h,Bool.false_and])⟩
def fewR (xs:List Int)(n hi:Int):Bool:=decide ((xs.length:Int)≤n)&&xs.all fun x=>btw x 0 hi
theorem qlX (m:Md)(hl:m.ranks.length≤1000000)(Q:IExit→(Nat→T)→Heap→Prop):∀(rest pre:List Int) (i:Nat),m.ranks=pre++rest→pre.length=i→
 ((rest.all fun x=>btw x 0 5)=true→∀i:Int,Q (.exit 0) (ofL [(1,.ref 0 10 0),(3,.int .i64 i),(22,.bool false)]) (hpL [(0,.live ⟨37,mdC m⟩)]))→
 ((rest.all fun x=>btw x 0 5)=false→Q .ret (ofL [(2,.bool false)]) (hpL [(0,.live ⟨37,mdC m⟩)]))→
 WL Tryz.prog 32 qmI (ofL [(1,.ref 0 10 0),(3,.int .i64 i)]) (hpL [(0,.live ⟨37,mdC m⟩)]) Q:=by
 intro rest
 simp only[mdC]
 induction rest with
 | nil=>
  intro pre i he hn hQ0 hQ1
  have hd:decide ((i:Int)<((qad m.ranks).length:Int))=false:=by simp[qae,he,hn]
  have fX:=@hd
  refine qaa qmI.eq_1 ?_
  refine wR0 600 [1,3,22] fX ?_
  refine wF @hd ?_
  refine wX ?_
  refine wN ?_
  exact hQ0 rfl _
 | cons k rest ih=>
  intro pre i he hn hQ0 hQ1
  have hlt:(i:Int)<((qad m.ranks).length:Int):=by simp[qae,he];omega
  have hlb:i≤1000000:=by rw[he] at hl;simp at hl;omega
  have hd:decide ((i:Int)<((qad m.ranks).length:Int))=true:=decide_eq_true hlt
  have hg:(qad m.ranks).getD (i:Int).toNat .undef=.int .i64 k:=by rw[Int.toNat_natCast,he,←hn];exact qcN _ k _
  have hw:IntKind.wrap .i64 ((i:Int)+1)=(i:Int)+1:=wrap64 (by omega) (by omega)
  have fX:=(cJ3 @hd @hg @hw)
  refine qaa qmI.eq_1 ?_
  refine wR0 600 [1,3,22] fX ?_
  refine wT @hd ?_
  refine wRn 700 [1,3,31] fX ?_
  refine rC fX ?_
  refine⟨_,qat k 0 5,rE fX ?_⟩
  refine wS cJ0 (fun hc700=>?_) (fun hc700=>?_)
  ·skip
   refine wR0 800 [2] fX ?_
   refine wE ?_
   refine wN ?_
   simp at hc700
   exact hQ1 (by simp[hc700])
  ·skip
   refine wR0 900 [1,3] fX ?_
   refine wN ?_
   simp at hc700
   have e:((k::rest).all fun x=>btw x 0 5)=(rest.all fun x=>btw x 0 5):=(by simp[hc700])
   rw[e] at hQ0 hQ1
   exact ih (pre++[k]) (i+1) (by simp[he]) (by simp;omega) hQ0 hQ1
theorem qqz (m:Md)(hm:m.fit):TP Tryz.prog 85 [qaA m] (.bool (qdq m)):=by
 have hr:=hm.ranks
 refine qag fn85 (by simp) ?_
 unfold i85
 simp only[argL,qaA,mdC]
 refine wR0 0 [1] cJ0 ?_
 refine wR0 100 [1,6] cJ0 ?_
 refine wS cJ0 (fun hc100=>?_) (fun hc100=>?_)
 ·skip
  refine wR0 200 [2] cJ0 ?_
  refine wP ?_
  exact qac (by simp at hc100;rw[qdq,if_pos hc100,qae])
 ·skip
  refine wR0 300 [1,17] cJ0 ?_
  refine wS cJ0 (fun hc300=>?_) (fun hc300=>?_)
  ·skip
   refine wR0 400 [2] cJ0 ?_
   refine wP ?_
   exact qac (by simp at hc100;simp[qae,qai] at hc300;rw[qdq,if_neg (by simp[hc100])];simp;omega)
  ·skip
   refine wR0 500 [1,3] cJ0 ?_
   simp only[thn]
   have hlen:((m.ranks.length:Int)==m.letters.length)=true:=(by simpa [qae,qai] using hc300)
   refine wL ?_
   refine qlX m hr _ m.ranks [] 0 rfl rfl ?_ ?_
   ·intro h i
    refine wN ?_
    refine wR0 1000 [2] cJ0 ?_
    refine wP ?_
    exact qac (by simp at hc100;rw[qdq,if_neg (by simp[hc100]),hlen,Bool.true_and,←List.all_eq_not_any_not,h])
   ·intro h
    refine wN ?_
    exact⟨by simp,_,rfl,by exact qac (by simp at hc100;rw[qdq,if_neg (by simp[hc100]),hlen,Bool.true_and,←List.all_eq_not_any_not,h])⟩
def timedR (m:Md)(r:Rl):Bool:=!(decide ((r.takes.length:Int) > 3) || !fewR r.makes 3 ((m.places.length:Int) - 1))&&!(r.takes.any fun t=>badTk m.places.length m.age t)&&ascI r.makes
theorem qb0 (zs:List T):repl 1 zs=zs:=by simp[repl]
theorem qkV (zs:List T):repl 2 zs=zs++zs:=by simp[repl]
theorem qaw:qad []=[]:=rfl
def qaU (n:Int):Ty:=.mk 2 n [] []
def qbI (k:Int)(t:Ty):Ty:=.mk k 0 [] [t]
def qev (l:Int)(lv:Int):Ty:=if lv > 1 then qbI 5 (.mk 3 0 [] [qaU l,qbI 5 (qaU l)]) else qbI 5 (qaU l)
theorem qb9 (l:Int):qev l 1=qbI 5 (qaU l):=rfl
theorem qcl (l:Int):qev l 2=qbI 5 (.mk 3 0 [] [qaU l,qbI 5 (qaU l)]):=rfl
def qbf (ps:List Ty):Ty:=.mk 3 0 [] ps
end
section
open Go.RowKit
def encP (x:Int×Int):T:=.agg [.int .i64 x.1,.int .i64 x.2]
def qbe (l:List (Int×Int)):List T:=l.map encP
def pC (x:Int×Int):List T:=[.int .i64 x.1,.int .i64 x.2]
def qdf (l:List (Int×Int)):List T:=l.flatMap fun x=>[.int .i64 x.1,.int .i64 x.2]
theorem qa0 (l:List (Int×Int)):(qbe l).length=l.length:=by simp[qbe]
theorem qo5 (pre:List (Int×Int))(k:Int×Int)(rest:List (Int×Int)):(qbe (pre++k::rest)).getD pre.length .undef=encP k:=by simp[qbe,List.getD_eq_getElem?_getD]
theorem qaI (D:Nat→Bool):∀l,clL D (qbe l)=true
 | []=>rfl
 | x::l=>by have:=qaI D l;simp only[qbe] at this;simp[qbe,encP,clL,T.cl,this]
theorem qfG:∀l:List (Int×Int),(qdf l).length=l.length*2
 | []=>rfl
 | x::l=>by have:=qfG l;simp only[qdf] at this;simp[qdf,this];omega
theorem qgd:∀l:List (Int×Int),qdf l=flat (qbe l)
 | []=>rfl
 | x::l=>by have:=qgd l;simp only[qdf,qbe] at this;simp[qdf,qbe,encP,qbH,this,T.cells]
theorem qdX (D:Nat→Bool):∀l,clL D (qdf l)=true
 | []=>rfl
 | x::l=>by have:=qdX D l;simp only[qdf] at this;simp[qdf,clL,T.cl,this]
theorem qiD:∀l,Ones (qdf l)
 | []=>fun c hc=>by cases hc
 | x::l=>fun c hc=>by
  have:=qiD l
  simp only[qdf,List.flatMap_cons,List.cons_append,List.nil_append,List.mem_cons] at hc
  rcases hc with rfl | rfl | hc
  ·rfl
  ·rfl
  ·exact this c hc
theorem qki (l:List (Int×Int)):qc3 (esz 2) (qbe l):=fun x hx=>by
 obtain⟨v,_,rfl⟩:=List.mem_map.1 hx
 rfl
theorem qms {H:Heap}{id ty n tot:Nat}(l:List (Int×Int))(hb:H id=.live ⟨ty,qdf l⟩)(hn:n=l.length)(ht:tot=l.length*2):Frz H (.sl id tot 2 0 n) (.list (qbe l)):=by
 subst hn ht
 refine Frz.sl hb (qfG l) (by simp[esz]) (qa0 l) (qki l) (by rw[←qgd];exact qiD l) fun k hk=>?_
 rw[←qgd,Nat.zero_add]
 exact .same (qbk (qdX _ l) k)
def qdi (id:Nat)(done:List (Int×Int)):T:=match done with
 | []=>.nil
 | d::ds=>.sl id ((ds.length+1)*2) 2 0 (ds.length+1)
def qdw (id ty:Nat)(done:List (Int×Int)):List (Nat×Slot):=match done with
 | []=>[]
 | d::ds=>[(id,.live ⟨ty,qdf (d::ds)⟩)]
end
end Go.Proofs.YtkbjpglehdhjfaaGreatDoor
