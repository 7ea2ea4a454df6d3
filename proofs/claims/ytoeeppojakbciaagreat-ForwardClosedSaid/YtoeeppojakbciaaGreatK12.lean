/- Contracts of functions of the program, for all arguments that they name. -/
import Derived.Test.YtoeeppojakbciaaGreatK11
namespace Go.Proofs.YtoeeppojakbciaaGreat
set_option linter.unusedVariables false
section
open Go.RowKit
set_option maxHeartbeats 2000000
def letB (c:Int):Bool:=decide (c≥97)&&decide (c≤122)
def digB (c:Int):Bool:=decide (c≥48)&&decide (c≤57)
def qj0 (c:Int):Bool:=letB c || digB c || c==95
theorem qjO (c:Int):TP Tryz.prog 172 [.int .u8 c] (.bool (letB c)):=by
 refine qah fn172 (by simp) ?_
 unfold i172
 simp only[argL]
 refine wR0 0 [0] cJ0 ?_
 refine wR0 100 [2] cJ0 ?_
 refine wP ?_
 exact qab rfl
theorem qqD (c:Int):TP Tryz.prog 194 [.int .u8 c] (.bool (digB c)):=by
 refine qah fn194 (by simp) ?_
 unfold i194
 simp only[argL]
 refine wR0 0 [0] cJ0 ?_
 refine wR0 100 [2] cJ0 ?_
 refine wP ?_
 exact qab rfl
theorem qtB (c:Int):TP Tryz.prog 174 [.int .u8 c] (.bool (qj0 c)):=by
 refine qah fn174 (by simp) ?_
 unfold i174
 simp only[argL]
 refine wR0 0 [0] cJ0 ?_
 refine wRn 100 [2] cJ0 ?_
 refine rC cJ0 ?_
 refine⟨_,qjO c,rN cJ0 ?_⟩
 refine rCi cJ0 ?_
 refine⟨_,fun hw=>qqD c,rE cJ0 ?_⟩
 refine wP ?_
 exact qab rfl
def runN (s:ByteArray):Nat→Int→Int
 | 0,i=>i
 | n+1,i=>if qj0 (qch s i)=true then runN s n (i+1) else i
theorem qrL (s:ByteArray)(hs:s.size≤1000000)(Q:IExit→(Nat→T)→Heap→Prop):∀(n i:Nat),i+n=s.size→
 (∀b,Q (.exit 0) (ofL [(0,.str s),(1,.fn 174 []),(5,.int .i64 (runN s n i)),(16,b)]) (hpL []))→
 WL Tryz.prog 20 qiC (ofL [(0,.str s),(1,.fn 174 []),(5,.int .i64 i)]) (hpL []) Q:=by
 intro n
 induction n with
 | zero=>
  intro i hi hQ
  have hd:decide ((i:Int)<(s.size:Int))=false:=decide_eq_false (by omega)
  have fX:=@hd
  refine qaa qiC.eq_1 ?_
  refine wR0 200 [0,1,5,16] fX ?_
  refine wF @hd ?_
  refine wX ?_
  refine wN ?_
  exact hQ _
 | succ n ih=>
  intro i hi hQ
  have hlt:(i:Int).toNat<s.size:=by omega
  have hd:decide ((i:Int)<(s.size:Int))=true:=decide_eq_true (by omega)
  have hw:IntKind.wrap .i64 ((i:Int)+1)=(i:Int)+1:=wrap64 (by omega) (by omega)
  have fX:=(cJ2 @hd @hw)
  refine qaa qiC.eq_1 ?_
  refine wRn 200 [0,1,5,16] fX ?_
  refine rCv fX ?_
  refine⟨_,qtB (qch s i),rE fX ?_⟩
  refine wS cJ0 (fun hc200=>?_) (fun hc200=>?_)
  ·skip
   refine wR0 300 [0,1,5] fX ?_
   refine wN ?_
   have e:runN s (n+1) i=runN s n ((i+1:Nat):Int):=(by rw[runN,if_pos hc200];rfl)
   rw[e] at hQ
   exact ih (i+1) (by omega) hQ
  ·skip
   refine wX ?_
   refine wN ?_
   have e:runN s (n+1) i=i:=(by rw[runN,if_neg (by rw[hc200];simp)])
   rw[e] at hQ
   exact hQ _
theorem run_tp (s:ByteArray)(hs:s.size≤1000000):TP Tryz.prog 173 [.str s,.fn 174 []] (.int .i64 (runN s s.size 0)):=by
 refine qah fn173 (by simp) ?_
 unfold i173
 simp only[argL]
 refine wR0 0 [0,1] cJ0 ?_
 refine wR0 100 [0,1,5] cJ0 ?_
 refine wL ?_
 refine qrL s hs _ s.size 0 (by omega) ?_
 ·intro b
  refine wN ?_
  refine wR0 400 [4] cJ0 ?_
  refine wP ?_
  exact qaE rfl
def qho (s:ByteArray):Bool:=!(s.toList==ByteArray.toList ⟨#[]⟩)&&decide ((s.size:Int)≤12)&&letB (qch s 0)&&(runN s s.size 0==(s.size:Int))
theorem qmF {s:ByteArray}(h:(s.toList==ByteArray.toList ⟨#[]⟩)=false):0<s.size:=by
 rcases Nat.eq_zero_or_pos s.size with h0 | h0
 ·exfalso
  have hs:s=⟨#[]⟩:=by
   obtain⟨d⟩:=s
   have:d.size=0:=h0
   congr 1
   exact Array.eq_empty_of_size_eq_zero this
  rw[hs] at h
  simp at h
 ·exact h0
theorem qqg (s:ByteArray)(hs:s.size≤1000000):TP Tryz.prog 136 [.str s] (.bool (qho s)):=by
 rcases he:(s.toList==ByteArray.toList ⟨#[]⟩) with _ | _
 ·have hp:=qmF he
  have h0:(0:Int).toNat<s.size:=hp
  refine qah fn136 (by simp) ?_
  unfold i136
  simp only[argL]
  refine wR0 0 [0] cJ0 ?_
  refine wRn 100 [2] (cJ6 @binS.eq_1 @binS.eq_2 @binS.eq_3 @he @Bool.not_false @Bool.true_and) ?_
  refine rCi (cJ6 @binS.eq_1 @binS.eq_2 @binS.eq_3 @he @Bool.not_false @Bool.true_and) ?_
  refine⟨_,fun hw=>qjO (qch s 0),rN (cJ6 @binS.eq_1 @binS.eq_2 @binS.eq_3 @he @Bool.not_false @Bool.true_and) ?_⟩
  refine rCi (cJ6 @binS.eq_1 @binS.eq_2 @binS.eq_3 @he @Bool.not_false @Bool.true_and) ?_
  refine⟨_,fun hw=>run_tp s hs,rE (cJ6 @binS.eq_1 @binS.eq_2 @binS.eq_3 @he @Bool.not_false @Bool.true_and) ?_⟩
  refine wP ?_
  exact qab (by rw[qho,he];simp[Bool.and_assoc])
 ·refine qah fn136 (by simp) ?_
  unfold i136
  simp only[argL]
  refine wR0 0 [0] cJ0 ?_
  refine wR0 100 [2] (cJ6 @binS.eq_1 @binS.eq_2 @binS.eq_3 @he @Bool.not_true @Bool.false_and) ?_
  refine wP ?_
  exact qab (by rw[qho,he];simp)
def idxS (s:ByteArray):List ByteArray→Int→Int
 | [],_ => -1
 | k::ks,i=>if (s.toList==k.toList)=true then i else idxS s ks (i+1)
def inS (s:ByteArray)(l:List ByteArray):Bool:=l.any fun k=>s.toList==k.toList
theorem qoN (s:ByteArray):∀(ks:List ByteArray) (i:Int),0≤i→decide (idxS s ks i≥0)=inS s ks
 | [],i,_=>rfl
 | k::ks,i,hi=>by
  by_cases hp:(s.toList==k.toList)=true
  ·simp only[idxS,inS,List.any_cons,hp,Bool.true_or];exact decide_eq_true hi
  ·simp only[idxS,inS,List.any_cons,Bool.eq_false_iff.2 hp,Bool.false_or];exact qoN s ks (i+1) (by omega)
theorem qli (s:ByteArray)(xs:List ByteArray)(hl:xs.length≤1000000)(Q:IExit→(Nat→T)→Heap→Prop):∀(rest pre:List ByteArray) (i:Nat),xs=pre++rest→pre.length=i→
 (idxS s rest i = -1→∀i:Int,Q (.exit 0) (ofL [(0,.list (qau xs)),(1,.str s),(7,.int .i64 (qau xs).length),(8,.int .i64 i),(9,.bool false)]) (hpL []))→
 (idxS s rest i ≠ -1→Q .ret (ofL [(4,.int .i64 (idxS s rest i))]) (hpL []))→
 WL Tryz.prog 19 qiG (ofL [(0,.list (qau xs)),(1,.str s),(7,.int .i64 (qau xs).length),(8,.int .i64 i)]) (hpL []) Q:=by
 intro rest
 induction rest with
 | nil=>
  intro pre i he hn hQ0 hQ1
  have hd:decide ((i:Int)<((qau xs).length:Int))=false:=by simp[qaf,he,hn]
  have fX:=@hd
  refine qaa qiG.eq_1 ?_
  refine wR0 200 [0,1,7,8,9] fX ?_
  refine wF @hd ?_
  refine wX ?_
  refine wN ?_
  exact hQ0 rfl _
 | cons k rest ih=>
  intro pre i he hn hQ0 hQ1
  have hlt:(i:Int)<((qau xs).length:Int):=by simp[qaf,he];omega
  have hlb:i≤1000000:=by rw[he] at hl;simp at hl;omega
  have hd:decide ((i:Int)<((qau xs).length:Int))=true:=decide_eq_true hlt
  have hg:(qau xs).getD (i:Int).toNat .undef=.str k:=by rw[Int.toNat_natCast,he,←hn];exact qc3 _ k _
  have hw:IntKind.wrap .i64 ((i:Int)+1)=(i:Int)+1:=wrap64 (by omega) (by omega)
  have fX:=(cJ6 @hd @hg @hw @binS.eq_1 @binS.eq_2 @binS.eq_3)
  refine qaa qiG.eq_1 ?_
  refine wR0 200 [0,1,7,8,9] fX ?_
  refine wT @hd ?_
  refine wR0 300 [0,1,5,7,8] fX ?_
  refine wR0 400 [0,1,5,7,8,16] fX ?_
  refine wS cJ0 (fun hc400=>?_) (fun hc400=>?_)
  ·skip
   refine wR0 500 [4] fX ?_
   refine wE ?_
   refine wN ?_
   have e:idxS s (k::rest) i=i:=(by rw[idxS,if_pos hc400])
   rw[e] at hQ1
   exact hQ1 (by omega)
  ·skip
   refine wR0 600 [0,1,7,8] fX ?_
   refine wN ?_
   have e:idxS s (k::rest) i=idxS s rest ((i+1:Nat):Int):=(by rw[idxS,if_neg (by rw[hc400];simp)];rfl)
   rw[e] at hQ0 hQ1
   have:=ih (pre++[k]) (i+1) (by simp[he]) (by simp;omega) hQ0 hQ1
   simpa using this
theorem qpL (s:ByteArray)(xs:List ByteArray)(hl:xs.length≤1000000):TP Tryz.prog 195 [.list (qau xs),.str s] (.int .i64 (idxS s xs 0)):=by
 refine qah fn195 (by simp) ?_
 unfold i195
 simp only[argL]
 refine wR0 0 [0,1] cJ0 ?_
 refine wR0 100 [0,1,7,8] cJ0 ?_
 refine wL ?_
 refine qli s xs hl _ xs [] 0 rfl rfl ?_ ?_
 ·intro h i
  refine wN ?_
  refine wR0 700 [4] cJ0 ?_
  refine wP ?_
  exact qaE h.symm
 ·intro h
  refine wN ?_
  exact⟨by simp,_,rfl,by exact .same rfl⟩
theorem qkh (s:ByteArray)(xs:List ByteArray)(hl:xs.length≤1000000):TP Tryz.prog 175 [.list (qau xs),.str s] (.bool (inS s xs)):=by
 refine qah fn175 (by simp) ?_
 unfold i175
 simp only[argL]
 refine wR0 0 [0,1] cJ0 ?_
 refine wRn 100 [4] cJ0 ?_
 refine rC cJ0 ?_
 refine⟨_,qpL s xs hl,rE cJ0 ?_⟩
 refine wP ?_
 exact qab (qoN s xs 0 (by omega))
def kws:List ByteArray:=[⟨#[109,111,100,101,108]⟩,⟨#[115,116,97,116,101,115]⟩,⟨#[112,108,97,99,101,115]⟩,⟨#[108,101,116,116,101,114,115]⟩,⟨#[108,101,118,101,108,115]⟩,⟨#[97,103,101]⟩,⟨#[114,117,108,101]⟩,⟨#[110,101,101,100]⟩,⟨#[103,105,118,101]⟩,⟨#[109,111,118,101]⟩,⟨#[101,109,112,116,121]⟩,⟨#[115,101,110,100]⟩,⟨#[114,101,99,101,105,118,101]⟩,⟨#[112,97,116,104]⟩,⟨#[110,101,120,116]⟩,⟨#[116,97,107,101]⟩,⟨#[109,97,107,101]⟩,⟨#[115,116,97,114,116]⟩]
def kwT:List T:=[.str ⟨#[109,111,100,101,108]⟩,.str ⟨#[115,116,97,116,101,115]⟩,.str ⟨#[112,108,97,99,101,115]⟩,.str ⟨#[108,101,116,116,101,114,115]⟩,.str ⟨#[108,101,118,101,108,115]⟩,.str ⟨#[97,103,101]⟩,.str ⟨#[114,117,108,101]⟩,.str ⟨#[110,101,101,100]⟩,.str ⟨#[103,105,118,101]⟩,.str ⟨#[109,111,118,101]⟩,.str ⟨#[101,109,112,116,121]⟩,.str ⟨#[115,101,110,100]⟩,.str ⟨#[114,101,99,101,105,118,101]⟩,.str ⟨#[112,97,116,104]⟩,.str ⟨#[110,101,120,116]⟩,.str ⟨#[116,97,107,101]⟩,.str ⟨#[109,97,107,101]⟩,.str ⟨#[115,116,97,114,116]⟩]
theorem qhz (l:List ByteArray):Ones (qau l):=by
 intro c hc
 obtain⟨x,_,rfl⟩:=List.mem_map.1 hc
 rfl
theorem qbA (l:List ByteArray):flat (qau l)=qau l:=by
 induction l with
 | nil=>rfl
 | cons x l ih=>simp only[qau,List.map_cons] at ih ⊢;rw[qbn,ih];rfl
theorem qfF (l:List ByteArray):qcr (esz 0) (qau l):=by
 intro c hc
 obtain⟨x,_,rfl⟩:=List.mem_map.1 hc
 rfl
theorem qdo (l:List ByteArray):sizedB 0 (qau l)=true:=by
 rw[sizedB,List.all_eq_true]
 intro c hc
 obtain⟨x,_,rfl⟩:=List.mem_map.1 hc
 rfl
theorem qlP {H:Heap}{id ty n tot:Nat}(l:List ByteArray)(hb:H id=.live ⟨ty,qau l⟩)(hn:n=l.length)(ht:tot=l.length):Frz H (.sl id tot 0 0 n) (.list (qau l)):=by
 subst hn ht
 refine Frz.sl hb (qaf l) (by simp[esz]) (qaf l) (qfF l) (by rw[qbA];exact qhz l) fun k hk=>?_
 rw[qbA,Nat.zero_add]
 exact .same (qa5 (qaU _ l) k)
theorem qfp {H:Heap}{D:Nat→Bool}{id ty n tot:Nat}(l:List ByteArray)(hb:H id=.live ⟨ty,qau l⟩)(hd:D id=false)(hn:n=l.length)(ht:tot=l.length):Fz H D (.sl id tot 0 0 n) (.list (qau l)):=by
 subst hn ht
 refine Fz.sl hb hd (qaf l) (by simp[esz]) (qaf l) (qfF l) (by rw[qbA];exact qhz l) fun k hk=>?_
 rw[qbA,Nat.zero_add]
 exact .same (qa5 (qaU _ l) k)
def kwS (s:ByteArray):Bool:=inS s kws
set_option maxHeartbeats 2000000 in
theorem qhJ (s:ByteArray):TP Tryz.prog 137 [.str s] (.bool (kwS s)):=by
 have hk:=qkh s kws (by decide)
 have hkc:clL (fun i=>decide (i=100)) kwT=true:=rfl
 have hrp:repl 18 [T.str ⟨#[]⟩]=[.str ⟨#[]⟩,.str ⟨#[]⟩,.str ⟨#[]⟩,.str ⟨#[]⟩,.str ⟨#[]⟩,.str ⟨#[]⟩,.str ⟨#[]⟩,.str ⟨#[]⟩,.str ⟨#[]⟩,.str ⟨#[]⟩,.str ⟨#[]⟩,.str ⟨#[]⟩,.str ⟨#[]⟩,.str ⟨#[]⟩,.str ⟨#[]⟩,.str ⟨#[]⟩,.str ⟨#[]⟩,.str ⟨#[]⟩]:=rfl
 have fX:=@hrp
 refine qah fn137 (by simp) ?_
 unfold i137
 simp only[argL]
 refine wR0 0 [0] fX ?_
 refine wRn 100 [2] fX ?_
 refine rG [(100,.live ⟨9,kwT⟩)] fX ?_
 refine⟨_,_,hk,fZx,rE fX ?_⟩
 refine wP ?_
 exact qab rfl
theorem qrC (s:ByteArray)(xs:List ByteArray)(hl:xs.length≤1000000)(hh:List (Nat×Slot))(Q:IExit→(Nat→T)→Heap→Prop):∀(rest pre:List ByteArray) (i:Nat),xs=pre++rest→pre.length=i→
 ((rest.any fun k=>k.toList==s.toList)=false→∀i:Int,Q (.exit 0) (ofL [(0,.str s),(3,.list (qau xs)),(4,.int .i64 i),(9,.bool false)]) (hpL hh))→
 ((rest.any fun k=>k.toList==s.toList)=true→Q .ret (ofL [(2,.bool true)]) (hpL hh))→
 WL Tryz.prog 18 qiy (ofL [(0,.str s),(3,.list (qau xs)),(4,.int .i64 i)]) (hpL hh) Q:=by
 intro rest
 induction rest with
 | nil=>
  intro pre i he hn hQ0 hQ1
  have hd:decide ((i:Int)<((qau xs).length:Int))=false:=by simp[qaf,he,hn]
  have fX:=@hd
  refine qaa qiy.eq_1 ?_
  refine wR0 300 [0,3,4,9] fX ?_
  refine wF @hd ?_
  refine wX ?_
  refine wN ?_
  exact hQ0 rfl _
 | cons k rest ih=>
  intro pre i he hn hQ0 hQ1
  have hlt:(i:Int)<((qau xs).length:Int):=by simp[qaf,he];omega
  have hlb:i≤1000000:=by rw[he] at hl;simp at hl;omega
  have hd:decide ((i:Int)<((qau xs).length:Int))=true:=decide_eq_true hlt
  have hg:(qau xs).getD (i:Int).toNat .undef=.str k:=by rw[Int.toNat_natCast,he,←hn];exact qc3 _ k _
  have hw:IntKind.wrap .i64 ((i:Int)+1)=(i:Int)+1:=wrap64 (by omega) (by omega)
  have fX:=(cJ6 @hd @hg @hw @binS.eq_1 @binS.eq_2 @binS.eq_3)
  refine qaa qiy.eq_1 ?_
  refine wR0 300 [0,3,4,9] fX ?_
  refine wT @hd ?_
  refine wR0 400 [0,3,4,17] fX ?_
  refine wS cJ0 (fun hc400=>?_) (fun hc400=>?_)
  ·skip
   refine wR0 500 [2] fX ?_
   refine wE ?_
   refine wN ?_
   exact hQ1 (by rw[List.any_cons,hc400,Bool.true_or])
  ·skip
   refine wR0 600 [0,3,4] fX ?_
   refine wN ?_
   have e:((k::rest).any fun k=>k.toList==s.toList)=(rest.any fun k=>k.toList==s.toList):=(by rw[List.any_cons,hc400,Bool.false_or])
   rw[e] at hQ0 hQ1
   exact ih (pre++[k]) (i+1) (by simp[he]) (by simp;omega) hQ0 hQ1
theorem qsn (s:ByteArray):kwS s=kws.any fun k=>k.toList==s.toList:=by
 unfold kwS inS
 congr 1
 funext k
 rw[Bool.eq_iff_iff,beq_iff_eq,beq_iff_eq];exact eq_comm
set_option maxHeartbeats 2000000 in
theorem qlb (s:ByteArray):TP Tryz.prog 159 [.str s] (.bool (kwS s)):=by
 have hrp:repl 18 [T.str ⟨#[]⟩]=[.str ⟨#[]⟩,.str ⟨#[]⟩,.str ⟨#[]⟩,.str ⟨#[]⟩,.str ⟨#[]⟩,.str ⟨#[]⟩,.str ⟨#[]⟩,.str ⟨#[]⟩,.str ⟨#[]⟩,.str ⟨#[]⟩,.str ⟨#[]⟩,.str ⟨#[]⟩,.str ⟨#[]⟩,.str ⟨#[]⟩,.str ⟨#[]⟩,.str ⟨#[]⟩,.str ⟨#[]⟩,.str ⟨#[]⟩]:=rfl
 have fX:=@hrp
 refine qah fn159 (by simp) ?_
 unfold i159
 simp only[argL]
 refine wR0 0 [0] fX ?_
 refine wR0 100 [0,3] fX ?_
 simp only[thn]
 refine qfP (l':=[(0,.str s),(3,.list (qau kws))]) (hl':=[(100,.dead)]) [] (.cons (.same rfl) (.cons (qfp (ty:=9) kws rfl rfl rfl rfl) .nil)) (.dead rfl (fun h=>by cases h) .nil) ?_
 refine wR0 200 [0,3,4] fX ?_
 refine wL ?_
 refine qrC s kws (by decide) _ _ kws [] 0 rfl rfl ?_ ?_
 ·intro h i
  refine wN ?_
  refine wR0 700 [2] fX ?_
  refine wP ?_
  exact qab (by rw[qsn,h])
 ·intro h
  refine wN ?_
  exact⟨by simp,_,rfl,by exact qab (by rw[qsn,h])⟩
theorem qny (c:Int):TP Tryz.prog 192 [.int .u8 c] (.bool (qj0 c)):=by
 rcases h1:(decide (c≥97)&&decide (c≤122)) with _ | _
 ·refine qah fn192 (by simp) ?_
  unfold i192
  simp only[argL]
  refine wR0 0 [0] cJ0 ?_
  refine wR0 100 [2] @h1 ?_
  refine wP ?_
  exact qab (by simp only[qj0,letB,digB,h1,Bool.false_or])
 ·refine qah fn192 (by simp) ?_
  unfold i192
  simp only[argL]
  refine wR0 0 [0] cJ0 ?_
  refine wR0 100 [2] @h1 ?_
  refine wP ?_
  exact qab (by simp only[qj0,letB,h1,Bool.true_or])
def allN (s:ByteArray):Nat→Int→Bool
 | 0,i=>true
 | n+1,i=>qj0 (qch s i)&&allN s n (i+1)
theorem qpC (s:ByteArray):∀(n:Nat) (i:Int),i≤runN s n i∧runN s n i≤i+n
 | 0,i=>by simp[runN]
 | n+1,i=>by
  have:=qpC s n (i+1)
  unfold runN
  split<;>omega
theorem qmy (s:ByteArray):∀(n:Nat) (i:Int),(runN s n i==i+n)=allN s n i
 | 0,i=>by simp[runN,allN]
 | n+1,i=>by
  have h:=qmy s n (i+1)
  have hl:=qpC s n (i+1)
  cases hp:qj0 (qch s i) with
  | true=>
   rw[runN,if_pos hp,allN,hp,Bool.true_and,←h]
   congr 1
   omega
  | false=>
   rw[runN,if_neg (by rw[hp];simp),allN,hp,Bool.false_and]
   simp;omega
def qnT (s:ByteArray):Bool:=allN s s.size 0&&(decide ((s.size:Int)≥1)&&decide ((s.size:Int)≤12)&&decide (qch s 0≥97)&&decide (qch s 0≤122))
theorem qr7 (s:ByteArray):qnT s=qho s:=by
 have h:=qmy s s.size 0
 rw[Int.zero_add] at h
 unfold qnT qho letB
 rw[h]
 have he:(!(s.toList==ByteArray.toList ⟨#[]⟩))=decide ((s.size:Int)≥1):=by
  cases hq:(s.toList==ByteArray.toList ⟨#[]⟩) with
  | false=>have:=qmF hq;simp;omega
  | true=>
   have hs:s=⟨#[]⟩:=by
    have h1:s.toList=ByteArray.toList ⟨#[]⟩:=by simpa using hq
    rw[ByteArray.toList_eq,ByteArray.toList_eq] at h1
    obtain⟨⟨d⟩⟩:=s
    simp at h1
    subst h1;rfl
   rw[hs];rfl
 rw[he]
 generalize allN s s.size 0=a
 generalize decide ((s.size:Int)≥1)=b
 generalize decide ((s.size:Int)≤12)=c
 generalize decide (qch s 0≥97)=d
 generalize decide (qch s 0≤122)=e
 cases a<;>cases b<;>cases c<;>cases d<;>cases e<;>rfl
theorem qhT (s:ByteArray)(hs:s.size≤1000000)(Q:IExit→(Nat→T)→Heap→Prop):∀(n i:Nat),i+n=s.size→
 (allN s n i=true→∀i:Int,Q (.exit 0) (ofL [(0,.str s),(3,.int .i64 i),(7,.bool false)]) (hpL []))→
 (allN s n i=false→Q .ret (ofL [(2,.bool false)]) (hpL []))→
 WL Tryz.prog 33 qix (ofL [(0,.str s),(3,.int .i64 i)]) (hpL []) Q:=by
 intro n
 induction n with
 | zero=>
  intro i hi hQ0 hQ1
  have hd:decide ((i:Int)<(s.size:Int))=false:=decide_eq_false (by omega)
  have fX:=@hd
  refine qaa qix.eq_1 ?_
  refine wR0 200 [0,3,7] fX ?_
  refine wF @hd ?_
  refine wX ?_
  refine wN ?_
  exact hQ0 rfl _
 | succ n ih=>
  intro i hi hQ0 hQ1
  have hlt:(i:Int).toNat<s.size:=by omega
  have hd:decide ((i:Int)<(s.size:Int))=true:=decide_eq_true (by omega)
  have hw:IntKind.wrap .i64 ((i:Int)+1)=(i:Int)+1:=wrap64 (by omega) (by omega)
  have fX:=(cJ2 @hd @hw)
  refine qaa qix.eq_1 ?_
  refine wR0 200 [0,3,7] fX ?_
  refine wT @hd ?_
  refine wRn 300 [0,3,14] fX ?_
  refine rC fX ?_
  refine⟨_,qny (qch s i),rE fX ?_⟩
  refine wS cJ0 (fun hc300=>?_) (fun hc300=>?_)
  ·skip
   refine wR0 400 [2] fX ?_
   refine wE ?_
   refine wN ?_
   simp at hc300
   exact hQ1 (by rw[allN,hc300];rfl)
  ·skip
   refine wR0 500 [0,3] fX ?_
   refine wN ?_
   simp at hc300
   have e:allN s (n+1) i=allN s n ((i+1:Nat):Int):=(by rw[allN,hc300];rfl)
   rw[e] at hQ0 hQ1
   exact ih (i+1) (by omega) hQ0 hQ1
theorem qrN (s:ByteArray)(hs:s.size≤1000000):TP Tryz.prog 158 [.str s] (.bool (qho s)):=by
 rw[←qr7]
 rcases h1:decide ((s.size:Int)≥1) with _ | _
 ·refine qah fn158 (by simp) ?_
  unfold i158
  simp only[argL]
  refine wR0 0 [0] cJ0 ?_
  refine wR0 100 [0,3] cJ0 ?_
  refine wL ?_
  refine qhT s hs _ s.size 0 (by omega) ?_ ?_
  ·intro h i
   refine wN ?_
   refine wR0 600 [2] @h1 ?_
   refine wP ?_
   exact qab (by have h':allN s s.size 0=true:=h;rw[qnT,h',h1];simp)
  ·intro h
   refine wN ?_
   exact⟨by simp,_,rfl,by exact qab (by have h':allN s s.size 0=false:=h;rw[qnT,h'];simp)⟩
 ·have h0:(0:Int).toNat<s.size:=by simp at h1;simp;omega
  refine qah fn158 (by simp) ?_
  unfold i158
  simp only[argL]
  refine wR0 0 [0] cJ0 ?_
  refine wR0 100 [0,3] cJ0 ?_
  refine wL ?_
  refine qhT s hs _ s.size 0 (by omega) ?_ ?_
  ·intro h i
   refine wN ?_
   refine wR0 600 [2] @h1 ?_
   refine wP ?_
   exact qab (by have h':allN s s.size 0=true:=h;rw[qnT,h',h1];simp)
  ·intro h
   refine wN ?_
   exact⟨by simp,_,rfl,by exact qab (by have h':allN s s.size 0=false:=h;rw[qnT,h'];simp)⟩
end
end Go.Proofs.YtoeeppojakbciaaGreat
