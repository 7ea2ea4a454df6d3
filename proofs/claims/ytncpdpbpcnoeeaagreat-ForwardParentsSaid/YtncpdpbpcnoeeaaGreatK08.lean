/- Contracts of functions of the program, for all arguments that they name. -/
import Derived.Test.YtncpdpbpcnoeeaaGreatK07
namespace Go.Proofs.YtncpdpbpcnoeeaaGreat
set_option linter.unusedVariables false
section
open Go.RowKit
set_option maxHeartbeats 2000000
def qar (l:List ByteArray):List T:=l.map .str
theorem qaf (l:List ByteArray):(qar l).length=l.length:=by simp[qar]
theorem qhr (pre:List ByteArray)(k:ByteArray)(ks:List ByteArray):(qar (pre++k::ks)).getD pre.length .undef=.str k:=by
 simp[qar,List.getD_eq_getElem?_getD]
theorem qhq (xs ys:List ByteArray):qar (xs++ys)=qar xs++qar ys:=by simp[qar]
@[simp] theorem qdb (D:Nat→Bool)(l:List ByteArray):clL D (qar l)=true:=by
 induction l with
 | nil=>rfl
 | cons x l ih=>simpa [qar,clL,T.cl] using ih
structure Tk where
 place:Int
 low:Int
 high:Int
def qkq (t:Tk):T:=.agg [.int .i64 t.place,.int .i64 t.low,.int .i64 t.high]
def qba (l:List Tk):List T:=l.map qkq
theorem qcn (l:List Tk):(qba l).length=l.length:=by simp[qba]
theorem qf2 (pre:List Tk)(k:Tk)(ks:List Tk):(qba (pre++k::ks)).getD pre.length .undef=qkq k:=by
 simp[qba,List.getD_eq_getElem?_getD]
@[simp] theorem encTk_cl (D:Nat→Bool)(t:Tk):(qkq t).cl D=true:=rfl
@[simp] theorem encTks_cl (D:Nat→Bool)(l:List Tk):clL D (qba l)=true:=by
 induction l with
 | nil=>rfl
 | cons x l ih=>simpa [qba,clL] using ih
structure Rl where
 name:ByteArray
 from_:Int
 to_:Int
 need:List Int
 give:List Int
 move:List Int
 chan:Int
 act:Int
 lett:Int
 path:List Int
 next:List Int
 takes:List Tk
 makes:List Int
 second:Int
def rlC (r:Rl):List T:=[.str r.name,.int .i64 r.from_,.int .i64 r.to_,.list (qab r.need),.list (qab r.give),.list (qab r.move),.int .i64 r.chan,.int .i64 r.act,.int .i64 r.lett,.list (qab r.path),.list (qab r.next),.list (qba r.takes),.list (qab r.makes),.int .i64 r.second]
def qaU (r:Rl):T:=.agg (rlC r)
def qaC (l:List Rl):List T:=l.map qaU
theorem qbo (l:List Rl):(qaC l).length=l.length:=by simp[qaC]
theorem qeh (pre:List Rl)(k:Rl)(ks:List Rl):(qaC (pre++k::ks)).getD pre.length .undef=qaU k:=by
 simp[qaC,List.getD_eq_getElem?_getD]
@[simp] theorem rlC_cl (D:Nat→Bool)(r:Rl):clL D (rlC r)=true:=by simp[rlC,clL,T.cl]
@[simp] theorem qnC (D:Nat→Bool)(r:Rl):(qaU r).cl D=true:=by simp[qaU,T.cl]
@[simp] theorem qaV (D:Nat→Bool)(l:List Rl):clL D (qaC l)=true:=by
 induction l with
 | nil=>rfl
 | cons x l ih=>simp only[qaC,List.map_cons,clL,qnC,Bool.true_and];exact ih
structure Md where
 kind:Int
 states:List ByteArray
 places:List ByteArray
 letters:List ByteArray
 ranks:List Int
 levels:Int
 age:Int
 rules:List Rl
 start:V
def mdC (m:Md):List T:=[.int .i64 m.kind,.list (qar m.states),.list (qar m.places),.list (qar m.letters),.list (qab m.ranks),.int .i64 m.levels,.int .i64 m.age,.list (qaC m.rules),.int .i64 m.start.n,.list (qaj m.start.kids)]
def qaA (m:Md):T:=.agg (mdC m)
@[simp] theorem qjJ (D:Nat→Bool)(m:Md):clL D (mdC m)=true:=by simp[mdC,clL,T.cl]
@[simp] theorem qnB (D:Nat→Bool)(m:Md):(qaA m).cl D=true:=by simp[qaA,T.cl]
def kindOk (k:Int):Prop:=k=1
structure Rl.fit (r:Rl):Prop where
 need:r.need.length≤1000000
 give:r.give.length≤1000000
 move:r.move.length≤1000000
 path:r.path.length≤1000000
 next:r.next.length≤1000000
 takes:r.takes.length≤1000000
 makes:r.makes.length≤1000000
 name:r.name.size≤1000000
structure Md.fit (m:Md):Prop where
 states:m.states.length≤1000
 places:m.places.length≤1000
 letters:m.letters.length≤1000
 ranks:m.ranks.length≤1000000
 rules:m.rules.length≤1000
 rule:∀r∈m.rules,r.fit
 start:m.start.fit
 names:∀s∈m.states++m.places++m.letters,s.size≤1000000
 kd:kindOk m.kind
def btw (x a b:Int):Bool:=decide (x≥a)&&decide (x≤b)
theorem qa1 (x a b:Int):TP Tryz.prog 80 [.int .i64 x,.int .i64 a,.int .i64 b] (.bool (btw x a b)):=by
 refine qai fn80 (by simp) ?_
 unfold i80
 simp only[argL]
 refine wR0 0 [0,1,2] cJ0 ?_
 refine wR0 100 [6] cJ0 ?_
 refine wP ?_
 exact qad rfl
theorem qeJ (x n:Int)(hn:-1000000000000≤n∧n≤1000000000000):TP Tryz.prog 140 [.int .i64 x,.int .i64 n] (.bool (btw x 0 (n - 1))):=by
 have hw:IntKind.wrap .i64 (n - 1)=n - 1:=wrap64 (by omega) (by omega)
 have fX:=@hw
 refine qai fn140 (by simp) ?_
 unfold i140
 simp only[argL]
 refine wR0 0 [0,1] fX ?_
 refine wRn 100 [4] fX ?_
 refine rC fX ?_
 refine⟨_,qa1 x 0 (n - 1),rE fX ?_⟩
 refine wP ?_
 exact qad rfl
def limC (k:Int):List Int:=
 if k=1∨k=6 then [1,6,0,0,0,0,0,0] else if k=2∨k=3 then [1,2,1,6,0,0,0,0] else if k=4 then [0,0,1,6,1,2,0,0] else [1,6,0,0,0,0,0,3]
theorem qml (k:Int):TP Tryz.prog 134 [.int .i64 k] (.agg (qab (limC k))):=by
 have tk:∀(c:Int),(k==c)=true→k=c:=fun c h=>by simpa using h
 have fk:∀(c:Int),(k==c)=false→k≠c:=fun c h=>by simpa using h
 refine qai fn134 (by simp) ?_
 unfold i134
 simp only[argL]
 refine wR0 0 [0,2] cJ0 ?_
 refine wR0 100 [0,2,3] cJ0 ?_
 refine wR0 200 [2,3,5] cJ0 ?_
 refine wR0 300 [2,3,5,10] cJ0 ?_
 refine wS cJ0 (fun hc300=>?_) (fun hc300=>?_)
 ·skip
  refine wT @hc300 ?_
  refine wR0 500 [2,3] cJ0 ?_
  refine wR0 1200 [2] cJ0 ?_
  refine wP ?_
  first | (have h1:k=1∨k=6:=(by first | exact .inl (tk _ hc300) | exact .inr (tk _ hc400));rw[limC,if_pos h1];exact .same rfl) | (rw[limC,if_neg (fun h=>h.elim (fk _ hc300) (fk _ hc400))];first | (have h2:k=2∨k=3:=(by first | exact .inl (tk _ hc600) | exact .inr (tk _ hc700));rw[if_pos h2];exact .same rfl) | (rw[if_neg (fun h=>h.elim (fk _ hc600) (fk _ hc700))];first | (have h3:=tk _ hc900;rw[if_pos h3];exact .same rfl) | (rw[if_neg (fk _ hc900)];exact .same rfl)))
 ·skip
  refine wR0 400 [2,3,5,10] cJ0 ?_
  refine wS cJ0 (fun hc400=>?_) (fun hc400=>?_)
  ·skip
   refine wR0 500 [2,3] cJ0 ?_
   refine wR0 1200 [2] cJ0 ?_
   refine wP ?_
   first | (have h1:k=1∨k=6:=(by first | exact .inl (tk _ hc300) | exact .inr (tk _ hc400));rw[limC,if_pos h1];exact .same rfl) | (rw[limC,if_neg (fun h=>h.elim (fk _ hc300) (fk _ hc400))];first | (have h2:k=2∨k=3:=(by first | exact .inl (tk _ hc600) | exact .inr (tk _ hc700));rw[if_pos h2];exact .same rfl) | (rw[if_neg (fun h=>h.elim (fk _ hc600) (fk _ hc700))];first | (have h3:=tk _ hc900;rw[if_pos h3];exact .same rfl) | (rw[if_neg (fk _ hc900)];exact .same rfl)))
  ·skip
   refine wR0 600 [2,3,5,15] cJ0 ?_
   refine wS cJ0 (fun hc600=>?_) (fun hc600=>?_)
   ·skip
    refine wT @hc600 ?_
    refine wR0 800 [2,3] cJ0 ?_
    refine wR0 1200 [2] cJ0 ?_
    refine wP ?_
    first | (have h1:k=1∨k=6:=(by first | exact .inl (tk _ hc300) | exact .inr (tk _ hc400));rw[limC,if_pos h1];exact .same rfl) | (rw[limC,if_neg (fun h=>h.elim (fk _ hc300) (fk _ hc400))];first | (have h2:k=2∨k=3:=(by first | exact .inl (tk _ hc600) | exact .inr (tk _ hc700));rw[if_pos h2];exact .same rfl) | (rw[if_neg (fun h=>h.elim (fk _ hc600) (fk _ hc700))];first | (have h3:=tk _ hc900;rw[if_pos h3];exact .same rfl) | (rw[if_neg (fk _ hc900)];exact .same rfl)))
   ·skip
    refine wR0 700 [2,3,5,15] cJ0 ?_
    refine wS cJ0 (fun hc700=>?_) (fun hc700=>?_)
    ·skip
     refine wR0 800 [2,3] cJ0 ?_
     refine wR0 1200 [2] cJ0 ?_
     refine wP ?_
     first | (have h1:k=1∨k=6:=(by first | exact .inl (tk _ hc300) | exact .inr (tk _ hc400));rw[limC,if_pos h1];exact .same rfl) | (rw[limC,if_neg (fun h=>h.elim (fk _ hc300) (fk _ hc400))];first | (have h2:k=2∨k=3:=(by first | exact .inl (tk _ hc600) | exact .inr (tk _ hc700));rw[if_pos h2];exact .same rfl) | (rw[if_neg (fun h=>h.elim (fk _ hc600) (fk _ hc700))];first | (have h3:=tk _ hc900;rw[if_pos h3];exact .same rfl) | (rw[if_neg (fk _ hc900)];exact .same rfl)))
    ·skip
     refine wR0 900 [2,3,22] cJ0 ?_
     refine wS cJ0 (fun hc900=>?_) (fun hc900=>?_)
     ·skip
      refine wR0 1000 [2,3] cJ0 ?_
      refine wR0 1200 [2] cJ0 ?_
      refine wP ?_
      first | (have h1:k=1∨k=6:=(by first | exact .inl (tk _ hc300) | exact .inr (tk _ hc400));rw[limC,if_pos h1];exact .same rfl) | (rw[limC,if_neg (fun h=>h.elim (fk _ hc300) (fk _ hc400))];first | (have h2:k=2∨k=3:=(by first | exact .inl (tk _ hc600) | exact .inr (tk _ hc700));rw[if_pos h2];exact .same rfl) | (rw[if_neg (fun h=>h.elim (fk _ hc600) (fk _ hc700))];first | (have h3:=tk _ hc900;rw[if_pos h3];exact .same rfl) | (rw[if_neg (fk _ hc900)];exact .same rfl)))
     ·skip
      refine wR0 1100 [2,3] cJ0 ?_
      refine wR0 1200 [2] cJ0 ?_
      refine wP ?_
      first | (have h1:k=1∨k=6:=(by first | exact .inl (tk _ hc300) | exact .inr (tk _ hc400));rw[limC,if_pos h1];exact .same rfl) | (rw[limC,if_neg (fun h=>h.elim (fk _ hc300) (fk _ hc400))];first | (have h2:k=2∨k=3:=(by first | exact .inl (tk _ hc600) | exact .inr (tk _ hc700));rw[if_pos h2];exact .same rfl) | (rw[if_neg (fun h=>h.elim (fk _ hc600) (fk _ hc700))];first | (have h3:=tk _ hc900;rw[if_pos h3];exact .same rfl) | (rw[if_neg (fk _ hc900)];exact .same rfl)))
def qcP (m:Md):Bool:=
 btw m.states.length 1 8&&decide ((m.rules.length:Int)≤12)&&btw m.places.length ((limC m.kind).getD 0 0) ((limC m.kind).getD 1 0)&&btw m.letters.length ((limC m.kind).getD 2 0) ((limC m.kind).getD 3 0)&&
  btw m.levels ((limC m.kind).getD 4 0) ((limC m.kind).getD 5 0)&&btw m.age ((limC m.kind).getD 6 0) ((limC m.kind).getD 7 0)
theorem qqa (k:Int):∃a b c d e f g h,limC k=[a,b,c,d,e,f,g,h]:=by
 unfold limC
 (repeat' split)<;>exact⟨_,_,_,_,_,_,_,_,rfl⟩
set_option maxHeartbeats 4000000 in
theorem qoC (m:Md):TP Tryz.prog 81 [qaA m] (.bool (qcP m)):=by
 have hof:=qml m.kind
 obtain⟨a,b,c,d,e,f,g,h,hl⟩:=qqa m.kind
 rw[hl] at hof
 have fX:=@qab.eq_1
 refine qai fn81 (by simp) ?_
 unfold i81
 simp only[argL,qaA,mdC]
 refine wR0 0 [1] fX ?_
 refine wRn 100 [1,3] fX ?_
 refine rC fX ?_
 refine⟨_,hof,rE fX ?_⟩
 refine wRn 200 [2] fX ?_
 refine rC fX ?_
 refine⟨_,qa1 _ _ _,rN fX ?_⟩
 refine rCi fX ?_
 refine⟨_,fun hw=>qa1 _ _ _,rN fX ?_⟩
 refine rCi fX ?_
 refine⟨_,fun hw=>qa1 _ _ _,rN fX ?_⟩
 refine rCi fX ?_
 refine⟨_,fun hw=>qa1 _ _ _,rN fX ?_⟩
 refine rCi fX ?_
 refine⟨_,fun hw=>qa1 _ _ _,rE fX ?_⟩
 refine wP ?_
 exact qad (by simp[qcP,hl,qaf,qbo])
theorem qkJ (x:Int):TP Tryz.prog 135 [.int .i64 x] (.bool (!btw x 0 5)):=by
 refine qai fn135 (by simp) ?_
 unfold i135
 simp only[argL]
 refine wR0 0 [0] cJ0 ?_
 refine wRn 100 [2] cJ0 ?_
 refine rC cJ0 ?_
 refine⟨_,qa1 x 0 5,rE cJ0 ?_⟩
 refine wP ?_
 exact qad rfl
def qez (m:Md):Bool:=if m.kind≠3 then (m.ranks.length:Int)==0 else ((m.ranks.length:Int)==m.letters.length)&&!m.ranks.any fun x=>!btw x 0 5
theorem qmC (m:Md)(hm:m.fit):TP Tryz.prog 82 [qaA m] (.bool (qez m)):=by
 refine qai fn82 (by simp) ?_
 unfold i82
 simp only[argL,qaA,mdC]
 refine wR0 0 [1] cJ0 ?_
 refine wR0 100 [1,5] cJ0 ?_
 refine wS cJ0 (fun hc100=>?_) (fun hc100=>?_)
 ·skip
  refine wR0 200 [2] cJ0 ?_
  refine wP ?_
  exact qad (by simp at hc100;rw[qez,if_pos hc100,qac])
 ·skip
  refine wRn 300 [2] cJ0 ?_
  refine rCi cJ0 ?_
  refine⟨_,fun hw=>qhj 135 [] rfl (fun x=>!btw x 0 5) m.ranks hm.ranks (fun k hk=>qkJ k),rE cJ0 ?_⟩
  refine wP ?_
  exact qad (by simp at hc100;rw[qez,if_neg (by simp[hc100]),qac,qaf])
def letB (c:Int):Bool:=decide (c≥97)&&decide (c≤122)
def digB (c:Int):Bool:=decide (c≥48)&&decide (c≤57)
def qqg (c:Int):Bool:=letB c || digB c || c==95
theorem qhT (c:Int):TP Tryz.prog 173 [.int .u8 c] (.bool (letB c)):=by
 refine qai fn173 (by simp) ?_
 unfold i173
 simp only[argL]
 refine wR0 0 [0] cJ0 ?_
 refine wR0 100 [2] cJ0 ?_
 refine wP ?_
 exact qad rfl
theorem qnz (c:Int):TP Tryz.prog 195 [.int .u8 c] (.bool (digB c)):=by
 refine qai fn195 (by simp) ?_
 unfold i195
 simp only[argL]
 refine wR0 0 [0] cJ0 ?_
 refine wR0 100 [2] cJ0 ?_
 refine wP ?_
 exact qad rfl
theorem qqh (c:Int):TP Tryz.prog 175 [.int .u8 c] (.bool (qqg c)):=by
 refine qai fn175 (by simp) ?_
 unfold i175
 simp only[argL]
 refine wR0 0 [0] cJ0 ?_
 refine wRn 100 [2] cJ0 ?_
 refine rC cJ0 ?_
 refine⟨_,qhT c,rN cJ0 ?_⟩
 refine rCi cJ0 ?_
 refine⟨_,fun hw=>qnz c,rE cJ0 ?_⟩
 refine wP ?_
 exact qad rfl
def runN (s:ByteArray):Nat→Int→Int
 | 0,i=>i
 | n+1,i=>if qqg (qdq s i)=true then runN s n (i+1) else i
theorem qoy (s:ByteArray)(hs:s.size≤1000000)(Q:IExit→(Nat→T)→Heap→Prop):∀(n i:Nat),i+n=s.size→
 (∀b,Q (.exit 0) (ofL [(0,.str s),(1,.fn 175 []),(5,.int .i64 (runN s n i)),(16,b)]) (hpL []))→
 WL Tryz.prog 20 qgJ (ofL [(0,.str s),(1,.fn 175 []),(5,.int .i64 i)]) (hpL []) Q:=by
 intro n
 induction n with
 | zero=>
  intro i hi hQ
  have hd:decide ((i:Int)<(s.size:Int))=false:=decide_eq_false (by omega)
  have fX:=@hd
  refine qaa qgJ.eq_1 ?_
  refine wR0 200 [0,1,5,16] fX ?_
  refine wF @hd ?_
  refine wX ?_
  refine wN ?_
  exact hQ _
 | succ n ih=>
  intro i hi hQ
  have hlt:(i:Int).toNat<s.size:=by omega
  have hd:decide ((i:Int)<(s.size:Int))=true:=decide_eq_true (by omega)
  have hw:IntKind.wrap .i64 ((i:Int)+1)=(i:Int)+1:=wrap64 (by omega) (by omega)
  have fX:=(cJ2 @hd @hw)
  refine qaa qgJ.eq_1 ?_
  refine wRn 200 [0,1,5,16] fX ?_
  refine rCv fX ?_
  refine⟨_,qqh (qdq s i),rE fX ?_⟩
  refine wS cJ0 (fun hc200=>?_) (fun hc200=>?_)
  ·skip
   refine wR0 300 [0,1,5] fX ?_
   refine wN ?_
   have e:runN s (n+1) i=runN s n ((i+1:Nat):Int):=(by rw[runN,if_pos hc200];rfl)
   rw[e] at hQ
   exact ih (i+1) (by omega) hQ
  ·skip
   refine wX ?_
   refine wN ?_
   have e:runN s (n+1) i=i:=(by rw[runN,if_neg (by rw[hc200];simp)])
   rw[e] at hQ
   exact hQ _
theorem run_tp (s:ByteArray)(hs:s.size≤1000000):TP Tryz.prog 174 [.str s,.fn 175 []] (.int .i64 (runN s s.size 0)):=by
 refine qai fn174 (by simp) ?_
 unfold i174
 simp only[argL]
 refine wR0 0 [0,1] cJ0 ?_
 refine wR0 100 [0,1,5] cJ0 ?_
 refine wL ?_
 refine qoy s hs _ s.size 0 (by omega) ?_
 ·intro b
  refine wN ?_
  refine wR0 400 [4] cJ0 ?_
  refine wP ?_
  exact qaB rfl
def qi6 (s:ByteArray):Bool:=!(s.toList==ByteArray.toList ⟨#[]⟩)&&decide ((s.size:Int)≤12)&&letB (qdq s 0)&&(runN s s.size 0==(s.size:Int))
theorem qoB {s:ByteArray}(h:(s.toList==ByteArray.toList ⟨#[]⟩)=false):0<s.size:=by
 rcases Nat.eq_zero_or_pos s.size with h0 | h0
 ·exfalso
  have hs:s=⟨#[]⟩:=by
   obtain⟨d⟩:=s
   have:d.size=0:=h0
   congr 1
   exact Array.eq_empty_of_size_eq_zero this
  rw[hs] at h
  simp at h
 ·exact h0
theorem qnl (s:ByteArray)(hs:s.size≤1000000):TP Tryz.prog 137 [.str s] (.bool (qi6 s)):=by
 rcases he:(s.toList==ByteArray.toList ⟨#[]⟩) with _ | _
 ·have hp:=qoB he
  have h0:(0:Int).toNat<s.size:=hp
  refine qai fn137 (by simp) ?_
  unfold i137
  simp only[argL]
  refine wR0 0 [0] cJ0 ?_
  refine wRn 100 [2] (cJ6 @binS.eq_1 @binS.eq_2 @binS.eq_3 @he @Bool.not_false @Bool.true_and) ?_
  refine rCi (cJ6 @binS.eq_1 @binS.eq_2 @binS.eq_3 @he @Bool.not_false @Bool.true_and) ?_
  refine⟨_,fun hw=>qhT (qdq s 0),rN (cJ6 @binS.eq_1 @binS.eq_2 @binS.eq_3 @he @Bool.not_false @Bool.true_and) ?_⟩
  refine rCi (cJ6 @binS.eq_1 @binS.eq_2 @binS.eq_3 @he @Bool.not_false @Bool.true_and) ?_
  refine⟨_,fun hw=>run_tp s hs,rE (cJ6 @binS.eq_1 @binS.eq_2 @binS.eq_3 @he @Bool.not_false @Bool.true_and) ?_⟩
  refine wP ?_
  exact qad (by rw[qi6,he];simp[Bool.and_assoc])
 ·refine qai fn137 (by simp) ?_
  unfold i137
  simp only[argL]
  refine wR0 0 [0] cJ0 ?_
  refine wR0 100 [2] (cJ6 @binS.eq_1 @binS.eq_2 @binS.eq_3 @he @Bool.not_true @Bool.false_and) ?_
  refine wP ?_
  exact qad (by rw[qi6,he];simp)
def idxS (s:ByteArray):List ByteArray→Int→Int
 | [],_ => -1
 | k::ks,i=>if (s.toList==k.toList)=true then i else idxS s ks (i+1)
def inS (s:ByteArray)(l:List ByteArray):Bool:=l.any fun k=>s.toList==k.toList
theorem ql1 (s:ByteArray):∀(ks:List ByteArray) (i:Int),0≤i→decide (idxS s ks i≥0)=inS s ks
 | [],i,_=>rfl
 | k::ks,i,hi=>by
  by_cases hp:(s.toList==k.toList)=true
  ·simp only[idxS,inS,List.any_cons,hp,Bool.true_or];exact decide_eq_true hi
  ·simp only[idxS,inS,List.any_cons,Bool.eq_false_iff.2 hp,Bool.false_or];exact ql1 s ks (i+1) (by omega)
theorem qi0 (s:ByteArray)(xs:List ByteArray)(hl:xs.length≤1000000)(Q:IExit→(Nat→T)→Heap→Prop):∀(rest pre:List ByteArray) (i:Nat),xs=pre++rest→pre.length=i→
 (idxS s rest i = -1→∀i:Int,Q (.exit 0) (ofL [(0,.list (qar xs)),(1,.str s),(7,.int .i64 (qar xs).length),(8,.int .i64 i),(9,.bool false)]) (hpL []))→
 (idxS s rest i ≠ -1→Q .ret (ofL [(4,.int .i64 (idxS s rest i))]) (hpL []))→
 WL Tryz.prog 19 qgM (ofL [(0,.list (qar xs)),(1,.str s),(7,.int .i64 (qar xs).length),(8,.int .i64 i)]) (hpL []) Q:=by
 intro rest
 induction rest with
 | nil=>
  intro pre i he hn hQ0 hQ1
  have hd:decide ((i:Int)<((qar xs).length:Int))=false:=by simp[qaf,he,hn]
  have fX:=@hd
  refine qaa qgM.eq_1 ?_
  refine wR0 200 [0,1,7,8,9] fX ?_
  refine wF @hd ?_
  refine wX ?_
  refine wN ?_
  exact hQ0 rfl _
 | cons k rest ih=>
  intro pre i he hn hQ0 hQ1
  have hlt:(i:Int)<((qar xs).length:Int):=by simp[qaf,he];omega
  have hlb:i≤1000000:=by rw[he] at hl;simp at hl;omega
  have hd:decide ((i:Int)<((qar xs).length:Int))=true:=decide_eq_true hlt
  have hg:(qar xs).getD (i:Int).toNat .undef=.str k:=by rw[Int.toNat_natCast,he,←hn];exact qhr _ k _
  have hw:IntKind.wrap .i64 ((i:Int)+1)=(i:Int)+1:=wrap64 (by omega) (by omega)
  have fX:=(cJ6 @hd @hg @hw @binS.eq_1 @binS.eq_2 @binS.eq_3)
  refine qaa qgM.eq_1 ?_
  refine wR0 200 [0,1,7,8,9] fX ?_
  refine wT @hd ?_
  refine wR0 300 [0,1,5,7,8] fX ?_
  refine wR0 400 [0,1,5,7,8,16] fX ?_
  refine wS cJ0 (fun hc400=>?_) (fun hc400=>?_)
  ·skip
   refine wR0 500 [4] fX ?_
   refine wE ?_
   refine wN ?_
   have e:idxS s (k::rest) i=i:=(by rw[idxS,if_pos hc400])
   rw[e] at hQ1
   exact hQ1 (by omega)
  ·skip
   refine wR0 600 [0,1,7,8] fX ?_
   refine wN ?_
   have e:idxS s (k::rest) i=idxS s rest ((i+1:Nat):Int):=(by rw[idxS,if_neg (by rw[hc400];simp)];rfl)
   rw[e] at hQ0 hQ1
   have:=ih (pre++[k]) (i+1) (by simp[he]) (by simp;omega) hQ0 hQ1
   simpa using this
theorem qmR (s:ByteArray)(xs:List ByteArray)(hl:xs.length≤1000000):TP Tryz.prog 196 [.list (qar xs),.str s] (.int .i64 (idxS s xs 0)):=by
 refine qai fn196 (by simp) ?_
 unfold i196
 simp only[argL]
 refine wR0 0 [0,1] cJ0 ?_
 refine wR0 100 [0,1,7,8] cJ0 ?_
 refine wL ?_
 refine qi0 s xs hl _ xs [] 0 rfl rfl ?_ ?_
 ·intro h i
  refine wN ?_
  refine wR0 700 [4] cJ0 ?_
  refine wP ?_
  exact qaB h.symm
 ·intro h
  refine wN ?_
  exact⟨by simp,_,rfl,by exact .same rfl⟩
theorem qif (s:ByteArray)(xs:List ByteArray)(hl:xs.length≤1000000):TP Tryz.prog 176 [.list (qar xs),.str s] (.bool (inS s xs)):=by
 refine qai fn176 (by simp) ?_
 unfold i176
 simp only[argL]
 refine wR0 0 [0,1] cJ0 ?_
 refine wRn 100 [4] cJ0 ?_
 refine rC cJ0 ?_
 refine⟨_,qmR s xs hl,rE cJ0 ?_⟩
 refine wP ?_
 exact qad (ql1 s xs 0 (by omega))
def kws:List ByteArray:=[⟨#[109,111,100,101,108]⟩,⟨#[115,116,97,116,101,115]⟩,⟨#[112,108,97,99,101,115]⟩,⟨#[108,101,116,116,101,114,115]⟩,⟨#[108,101,118,101,108,115]⟩,⟨#[97,103,101]⟩,⟨#[114,117,108,101]⟩,⟨#[110,101,101,100]⟩,⟨#[103,105,118,101]⟩,⟨#[109,111,118,101]⟩,⟨#[101,109,112,116,121]⟩,⟨#[115,101,110,100]⟩,⟨#[114,101,99,101,105,118,101]⟩,⟨#[112,97,116,104]⟩,⟨#[110,101,120,116]⟩,⟨#[116,97,107,101]⟩,⟨#[109,97,107,101]⟩,⟨#[115,116,97,114,116]⟩]
def kwT:List T:=[.str ⟨#[109,111,100,101,108]⟩,.str ⟨#[115,116,97,116,101,115]⟩,.str ⟨#[112,108,97,99,101,115]⟩,.str ⟨#[108,101,116,116,101,114,115]⟩,.str ⟨#[108,101,118,101,108,115]⟩,.str ⟨#[97,103,101]⟩,.str ⟨#[114,117,108,101]⟩,.str ⟨#[110,101,101,100]⟩,.str ⟨#[103,105,118,101]⟩,.str ⟨#[109,111,118,101]⟩,.str ⟨#[101,109,112,116,121]⟩,.str ⟨#[115,101,110,100]⟩,.str ⟨#[114,101,99,101,105,118,101]⟩,.str ⟨#[112,97,116,104]⟩,.str ⟨#[110,101,120,116]⟩,.str ⟨#[116,97,107,101]⟩,.str ⟨#[109,97,107,101]⟩,.str ⟨#[115,116,97,114,116]⟩]
theorem qf1 (l:List ByteArray):Ones (qar l):=by
 intro c hc
 obtain⟨x,_,rfl⟩:=List.mem_map.1 hc
 rfl
theorem qcm (l:List ByteArray):flat (qar l)=qar l:=by
 induction l with
 | nil=>rfl
 | cons x l ih=>simp only[qar,List.map_cons] at ih ⊢;rw[qa2,ih];rfl
theorem qew (l:List ByteArray):qbL (esz 0) (qar l):=by
 intro c hc
 obtain⟨x,_,rfl⟩:=List.mem_map.1 hc
 rfl
theorem qix (l:List ByteArray):sizedB 0 (qar l)=true:=by
 rw[sizedB,List.all_eq_true]
 intro c hc
 obtain⟨x,_,rfl⟩:=List.mem_map.1 hc
 rfl
theorem qjr {H:Heap}{id ty n tot:Nat}(l:List ByteArray)(hb:H id=.live ⟨ty,qar l⟩)(hn:n=l.length)(ht:tot=l.length):Frz H (.sl id tot 0 0 n) (.list (qar l)):=by
 subst hn ht
 refine Frz.sl hb (qaf l) (by simp[esz]) (qaf l) (qew l) (by rw[qcm];exact qf1 l) fun k hk=>?_
 rw[qcm,Nat.zero_add]
 exact .same (qaP (qdb _ l) k)
theorem qpH {H:Heap}{D:Nat→Bool}{id ty n tot:Nat}(l:List ByteArray)(hb:H id=.live ⟨ty,qar l⟩)(hd:D id=false)(hn:n=l.length)(ht:tot=l.length):Fz H D (.sl id tot 0 0 n) (.list (qar l)):=by
 subst hn ht
 refine Fz.sl hb hd (qaf l) (by simp[esz]) (qaf l) (qew l) (by rw[qcm];exact qf1 l) fun k hk=>?_
 rw[qcm,Nat.zero_add]
 exact .same (qaP (qdb _ l) k)
def kwS (s:ByteArray):Bool:=inS s kws
set_option maxHeartbeats 2000000 in
theorem qgc (s:ByteArray):TP Tryz.prog 138 [.str s] (.bool (kwS s)):=by
 have hk:=qif s kws (by decide)
 have hkc:clL (fun i=>decide (i=100)) kwT=true:=rfl
 have hrp:repl 18 [T.str ⟨#[]⟩]=[.str ⟨#[]⟩,.str ⟨#[]⟩,.str ⟨#[]⟩,.str ⟨#[]⟩,.str ⟨#[]⟩,.str ⟨#[]⟩,.str ⟨#[]⟩,.str ⟨#[]⟩,.str ⟨#[]⟩,.str ⟨#[]⟩,.str ⟨#[]⟩,.str ⟨#[]⟩,.str ⟨#[]⟩,.str ⟨#[]⟩,.str ⟨#[]⟩,.str ⟨#[]⟩,.str ⟨#[]⟩,.str ⟨#[]⟩]:=rfl
 have fX:=@hrp
 refine qai fn138 (by simp) ?_
 unfold i138
 simp only[argL]
 refine wR0 0 [0] fX ?_
 refine wRn 100 [2] fX ?_
 refine rG [(100,.live ⟨9,kwT⟩)] fX ?_
 refine⟨_,_,hk,fZx,rE fX ?_⟩
 refine wP ?_
 exact qad rfl
end
end Go.Proofs.YtncpdpbpcnoeeaaGreat
