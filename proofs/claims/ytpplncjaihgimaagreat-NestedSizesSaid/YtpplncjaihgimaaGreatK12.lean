/- Contracts of functions of the program, for all arguments that they name. -/
import Derived.Test.YtpplncjaihgimaaGreatK11
namespace Go.Proofs.YtpplncjaihgimaaGreat
set_option linter.unusedVariables false
section
open Go.RowKit
set_option maxHeartbeats 2000000
def qas (l:List ByteArray):List T:=l.map .str
theorem qaf (l:List ByteArray):(qas l).length=l.length:=by simp[qas]
theorem qdv (pre:List ByteArray)(k:ByteArray)(ks:List ByteArray):(qas (pre++k::ks)).getD pre.length .undef=.str k:=by
 simp[qas,List.getD_eq_getElem?_getD]
theorem qcC (xs ys:List ByteArray):qas (xs++ys)=qas xs++qas ys:=by simp[qas]
@[simp] theorem qeO (D:Nat→Bool)(l:List ByteArray):clL D (qas l)=true:=by
 induction l with
 | nil=>rfl
 | cons x l ih=>simpa [qas,clL,T.cl] using ih
structure Tk where
 place:Int
 low:Int
 high:Int
def qlV (t:Tk):T:=.agg [.int .i64 t.place,.int .i64 t.low,.int .i64 t.high]
def qbM (l:List Tk):List T:=l.map qlV
theorem qcs (l:List Tk):(qbM l).length=l.length:=by simp[qbM]
theorem qir (pre:List Tk)(k:Tk)(ks:List Tk):(qbM (pre++k::ks)).getD pre.length .undef=qlV k:=by
 simp[qbM,List.getD_eq_getElem?_getD]
@[simp] theorem encTk_cl (D:Nat→Bool)(t:Tk):(qlV t).cl D=true:=rfl
@[simp] theorem encTks_cl (D:Nat→Bool)(l:List Tk):clL D (qbM l)=true:=by
 induction l with
 | nil=>rfl
 | cons x l ih=>simpa [qbM,clL] using ih
structure Rl where
 name:ByteArray
 from_:Int
 to_:Int
 need:List Int
 give:List Int
 move:List Int
 chan:Int
 act:Int
 lett:Int
 path:List Int
 next:List Int
 takes:List Tk
 makes:List Int
 second:Int
def rlC (r:Rl):List T:=[.str r.name,.int .i64 r.from_,.int .i64 r.to_,.list (qab r.need),.list (qab r.give),.list (qab r.move),.int .i64 r.chan,.int .i64 r.act,.int .i64 r.lett,.list (qab r.path),.list (qab r.next),.list (qbM r.takes),.list (qab r.makes),.int .i64 r.second]
def qbK (r:Rl):T:=.agg (rlC r)
def qaN (l:List Rl):List T:=l.map qbK
theorem qaB (l:List Rl):(qaN l).length=l.length:=by simp[qaN]
theorem qeN (pre:List Rl)(k:Rl)(ks:List Rl):(qaN (pre++k::ks)).getD pre.length .undef=qbK k:=by
 simp[qaN,List.getD_eq_getElem?_getD]
@[simp] theorem rlC_cl (D:Nat→Bool)(r:Rl):clL D (rlC r)=true:=by simp[rlC,clL,T.cl]
@[simp] theorem qsl (D:Nat→Bool)(r:Rl):(qbK r).cl D=true:=by simp[qbK,T.cl]
@[simp] theorem qp6 (D:Nat→Bool)(l:List Rl):clL D (qaN l)=true:=by
 induction l with
 | nil=>rfl
 | cons x l ih=>simp only[qaN,List.map_cons,clL,qsl,Bool.true_and];exact ih
structure Md where
 kind:Int
 states:List ByteArray
 places:List ByteArray
 letters:List ByteArray
 ranks:List Int
 levels:Int
 age:Int
 rules:List Rl
 start:V
def mdC (m:Md):List T:=[.int .i64 m.kind,.list (qas m.states),.list (qas m.places),.list (qas m.letters),.list (qab m.ranks),.int .i64 m.levels,.int .i64 m.age,.list (qaN m.rules),.int .i64 m.start.n,.list (qac m.start.kids)]
def qax (m:Md):T:=.agg (mdC m)
@[simp] theorem mdC_cl (D:Nat→Bool)(m:Md):clL D (mdC m)=true:=by simp[mdC,clL,T.cl]
@[simp] theorem encMd_cl (D:Nat→Bool)(m:Md):(qax m).cl D=true:=by simp[qax,T.cl]
def kindOk (k:Int):Prop:=k=4
structure Rl.fit (r:Rl):Prop where
 need:r.need.length≤1000000
 give:r.give.length≤1000000
 move:r.move.length≤1000000
 path:r.path.length≤1000000
 next:r.next.length≤1000000
 takes:r.takes.length≤1000000
 makes:r.makes.length≤1000000
 name:r.name.size≤1000000
structure Md.fit (m:Md):Prop where
 states:m.states.length≤1000
 places:m.places.length≤1000
 letters:m.letters.length≤1000
 ranks:m.ranks.length≤1000000
 rules:m.rules.length≤1000
 rule:∀r∈m.rules,r.fit
 start:m.start.fit
 names:∀s∈m.states++m.places++m.letters,s.size≤1000000
 kd:kindOk m.kind
def btw (x a b:Int):Bool:=decide (x≥a)&&decide (x≤b)
theorem qbX (x a b:Int):TP Tryz.prog 86 [.int .i64 x,.int .i64 a,.int .i64 b] (.bool (btw x a b)):=by
 refine qan fn86 (by simp) ?_
 unfold i86
 simp only[argL]
 refine wR0 0 [0,1,2] cJ0 ?_
 refine wR0 100 [6] cJ0 ?_
 refine wP ?_
 exact qad rfl
theorem qav (x a b:Int):TP Tryz.prog 94 [.int .i64 x,.int .i64 a,.int .i64 b] (.bool (btw x a b)):=by
 refine qan fn94 (by simp) ?_
 unfold i94
 simp only[argL]
 refine wR0 0 [0,1,2] cJ0 ?_
 refine wR0 100 [6] cJ0 ?_
 refine wP ?_
 exact qad rfl
theorem qfM (x n:Int)(hn:-1000000000000≤n∧n≤1000000000000):TP Tryz.prog 138 [.int .i64 x,.int .i64 n] (.bool (btw x 0 (n - 1))):=by
 have hw:IntKind.wrap .i64 (n - 1)=n - 1:=wrap64 (by omega) (by omega)
 have fX:=@hw
 refine qan fn138 (by simp) ?_
 unfold i138
 simp only[argL]
 refine wR0 0 [0,1] fX ?_
 refine wRn 100 [4] fX ?_
 refine rC fX ?_
 refine⟨_,qbX x 0 (n - 1),rE fX ?_⟩
 refine wP ?_
 exact qad rfl
def limC (k:Int):List Int:=
 if k=1∨k=6 then [1,6,0,0,0,0,0,0] else if k=2∨k=3 then [1,2,1,6,0,0,0,0] else if k=4 then [0,0,1,6,1,2,0,0] else [1,6,0,0,0,0,0,3]
theorem qqN (k:Int):TP Tryz.prog 131 [.int .i64 k] (.agg (qab (limC k))):=by
 have tk:∀(c:Int),(k==c)=true→k=c:=fun c h=>by simpa using h
 have fk:∀(c:Int),(k==c)=false→k≠c:=fun c h=>by simpa using h
 refine qan fn131 (by simp) ?_
 unfold i131
 simp only[argL]
 refine wR0 0 [0,2] cJ0 ?_
 refine wR0 100 [0,2,3] cJ0 ?_
 refine wR0 200 [2,3,5] cJ0 ?_
 refine wR0 300 [2,3,5,10] cJ0 ?_
 refine wS cJ0 (fun hc300=>?_) (fun hc300=>?_)
 ·skip
  refine wT @hc300 ?_
  refine wR0 500 [2,3] cJ0 ?_
  refine wR0 1200 [2] cJ0 ?_
  refine wP ?_
  first | (have h1:k=1∨k=6:=(by first | exact .inl (tk _ hc300) | exact .inr (tk _ hc400));rw[limC,if_pos h1];exact .same rfl) | (rw[limC,if_neg (fun h=>h.elim (fk _ hc300) (fk _ hc400))];first | (have h2:k=2∨k=3:=(by first | exact .inl (tk _ hc600) | exact .inr (tk _ hc700));rw[if_pos h2];exact .same rfl) | (rw[if_neg (fun h=>h.elim (fk _ hc600) (fk _ hc700))];first | (have h3:=tk _ hc900;rw[if_pos h3];exact .same rfl) | (rw[if_neg (fk _ hc900)];exact .same rfl)))
 ·skip
  refine wR0 400 [2,3,5,10] cJ0 ?_
  refine wS cJ0 (fun hc400=>?_) (fun hc400=>?_)
  ·skip
   refine wR0 500 [2,3] cJ0 ?_
   refine wR0 1200 [2] cJ0 ?_
   refine wP ?_
   first | (have h1:k=1∨k=6:=(by first | exact .inl (tk _ hc300) | exact .inr (tk _ hc400));rw[limC,if_pos h1];exact .same rfl) | (rw[limC,if_neg (fun h=>h.elim (fk _ hc300) (fk _ hc400))];first | (have h2:k=2∨k=3:=(by first | exact .inl (tk _ hc600) | exact .inr (tk _ hc700));rw[if_pos h2];exact .same rfl) | (rw[if_neg (fun h=>h.elim (fk _ hc600) (fk _ hc700))];first | (have h3:=tk _ hc900;rw[if_pos h3];exact .same rfl) | (rw[if_neg (fk _ hc900)];exact .same rfl)))
  ·skip
   refine wR0 600 [2,3,5,15] cJ0 ?_
   refine wS cJ0 (fun hc600=>?_) (fun hc600=>?_)
   ·skip
    refine wT @hc600 ?_
    refine wR0 800 [2,3] cJ0 ?_
    refine wR0 1200 [2] cJ0 ?_
    refine wP ?_
    first | (have h1:k=1∨k=6:=(by first | exact .inl (tk _ hc300) | exact .inr (tk _ hc400));rw[limC,if_pos h1];exact .same rfl) | (rw[limC,if_neg (fun h=>h.elim (fk _ hc300) (fk _ hc400))];first | (have h2:k=2∨k=3:=(by first | exact .inl (tk _ hc600) | exact .inr (tk _ hc700));rw[if_pos h2];exact .same rfl) | (rw[if_neg (fun h=>h.elim (fk _ hc600) (fk _ hc700))];first | (have h3:=tk _ hc900;rw[if_pos h3];exact .same rfl) | (rw[if_neg (fk _ hc900)];exact .same rfl)))
   ·skip
    refine wR0 700 [2,3,5,15] cJ0 ?_
    refine wS cJ0 (fun hc700=>?_) (fun hc700=>?_)
    ·skip
     refine wR0 800 [2,3] cJ0 ?_
     refine wR0 1200 [2] cJ0 ?_
     refine wP ?_
     first | (have h1:k=1∨k=6:=(by first | exact .inl (tk _ hc300) | exact .inr (tk _ hc400));rw[limC,if_pos h1];exact .same rfl) | (rw[limC,if_neg (fun h=>h.elim (fk _ hc300) (fk _ hc400))];first | (have h2:k=2∨k=3:=(by first | exact .inl (tk _ hc600) | exact .inr (tk _ hc700));rw[if_pos h2];exact .same rfl) | (rw[if_neg (fun h=>h.elim (fk _ hc600) (fk _ hc700))];first | (have h3:=tk _ hc900;rw[if_pos h3];exact .same rfl) | (rw[if_neg (fk _ hc900)];exact .same rfl)))
    ·skip
     refine wR0 900 [2,3,22] cJ0 ?_
     refine wS cJ0 (fun hc900=>?_) (fun hc900=>?_)
     ·skip
      refine wR0 1000 [2,3] cJ0 ?_
      refine wR0 1200 [2] cJ0 ?_
      refine wP ?_
      first | (have h1:k=1∨k=6:=(by first | exact .inl (tk _ hc300) | exact .inr (tk _ hc400));rw[limC,if_pos h1];exact .same rfl) | (rw[limC,if_neg (fun h=>h.elim (fk _ hc300) (fk _ hc400))];first | (have h2:k=2∨k=3:=(by first | exact .inl (tk _ hc600) | exact .inr (tk _ hc700));rw[if_pos h2];exact .same rfl) | (rw[if_neg (fun h=>h.elim (fk _ hc600) (fk _ hc700))];first | (have h3:=tk _ hc900;rw[if_pos h3];exact .same rfl) | (rw[if_neg (fk _ hc900)];exact .same rfl)))
     ·skip
      refine wR0 1100 [2,3] cJ0 ?_
      refine wR0 1200 [2] cJ0 ?_
      refine wP ?_
      first | (have h1:k=1∨k=6:=(by first | exact .inl (tk _ hc300) | exact .inr (tk _ hc400));rw[limC,if_pos h1];exact .same rfl) | (rw[limC,if_neg (fun h=>h.elim (fk _ hc300) (fk _ hc400))];first | (have h2:k=2∨k=3:=(by first | exact .inl (tk _ hc600) | exact .inr (tk _ hc700));rw[if_pos h2];exact .same rfl) | (rw[if_neg (fun h=>h.elim (fk _ hc600) (fk _ hc700))];first | (have h3:=tk _ hc900;rw[if_pos h3];exact .same rfl) | (rw[if_neg (fk _ hc900)];exact .same rfl)))
def qa9 (m:Md):Bool:=
 btw m.states.length 1 8&&decide ((m.rules.length:Int)≤12)&&btw m.places.length ((limC m.kind).getD 0 0) ((limC m.kind).getD 1 0)&&btw m.letters.length ((limC m.kind).getD 2 0) ((limC m.kind).getD 3 0)&&
  btw m.levels ((limC m.kind).getD 4 0) ((limC m.kind).getD 5 0)&&btw m.age ((limC m.kind).getD 6 0) ((limC m.kind).getD 7 0)
theorem quL (k:Int):∃a b c d e f g h,limC k=[a,b,c,d,e,f,g,h]:=by
 unfold limC
 (repeat' split)<;>exact⟨_,_,_,_,_,_,_,_,rfl⟩
set_option maxHeartbeats 4000000 in
theorem qth (m:Md):TP Tryz.prog 87 [qax m] (.bool (qa9 m)):=by
 have hof:=qqN m.kind
 obtain⟨a,b,c,d,e,f,g,h,hl⟩:=quL m.kind
 rw[hl] at hof
 have fX:=@qab.eq_1
 refine qan fn87 (by simp) ?_
 unfold i87
 simp only[argL,qax,mdC]
 refine wR0 0 [1] fX ?_
 refine wRn 100 [1,3] fX ?_
 refine rC fX ?_
 refine⟨_,hof,rE fX ?_⟩
 refine wRn 200 [2] fX ?_
 refine rC fX ?_
 refine⟨_,qbX _ _ _,rN fX ?_⟩
 refine rCi fX ?_
 refine⟨_,fun hw=>qbX _ _ _,rN fX ?_⟩
 refine rCi fX ?_
 refine⟨_,fun hw=>qbX _ _ _,rN fX ?_⟩
 refine rCi fX ?_
 refine⟨_,fun hw=>qbX _ _ _,rN fX ?_⟩
 refine rCi fX ?_
 refine⟨_,fun hw=>qbX _ _ _,rE fX ?_⟩
 refine wP ?_
 exact qad (by simp[qa9,hl,qaf,qaB])
theorem qoZ (x:Int):TP Tryz.prog 133 [.int .i64 x] (.bool (!btw x 0 5)):=by
 refine qan fn133 (by simp) ?_
 unfold i133
 simp only[argL]
 refine wR0 0 [0] cJ0 ?_
 refine wRn 100 [2] cJ0 ?_
 refine rC cJ0 ?_
 refine⟨_,qbX x 0 5,rE cJ0 ?_⟩
 refine wP ?_
 exact qad rfl
def qcO (m:Md):Bool:=if m.kind≠3 then (m.ranks.length:Int)==0 else ((m.ranks.length:Int)==m.letters.length)&&!m.ranks.any fun x=>!btw x 0 5
theorem qq0 (m:Md)(hm:m.fit):TP Tryz.prog 88 [qax m] (.bool (qcO m)):=by
 refine qan fn88 (by simp) ?_
 unfold i88
 simp only[argL,qax,mdC]
 refine wR0 0 [1] cJ0 ?_
 refine wR0 100 [1,5] cJ0 ?_
 refine wS cJ0 (fun hc100=>?_) (fun hc100=>?_)
 ·skip
  refine wR0 200 [2] cJ0 ?_
  refine wP ?_
  exact qad (by simp at hc100;rw[qcO,if_pos hc100,qah])
 ·skip
  refine wRn 300 [2] cJ0 ?_
  refine rCi cJ0 ?_
  refine⟨_,fun hw=>qmI 133 [] rfl (fun x=>!btw x 0 5) m.ranks hm.ranks (fun k hk=>qoZ k),rE cJ0 ?_⟩
  refine wP ?_
  exact qad (by simp at hc100;rw[qcO,if_neg (by simp[hc100]),qah,qaf])
def letB (c:Int):Bool:=decide (c≥97)&&decide (c≤122)
def digB (c:Int):Bool:=decide (c≥48)&&decide (c≤57)
def qie (c:Int):Bool:=letB c || digB c || c==95
theorem qkL (c:Int):TP Tryz.prog 176 [.int .u8 c] (.bool (letB c)):=by
 refine qan fn176 (by simp) ?_
 unfold i176
 simp only[argL]
 refine wR0 0 [0] cJ0 ?_
 refine wR0 100 [2] cJ0 ?_
 refine wP ?_
 exact qad rfl
theorem qsk (c:Int):TP Tryz.prog 203 [.int .u8 c] (.bool (digB c)):=by
 refine qan fn203 (by simp) ?_
 unfold i203
 simp only[argL]
 refine wR0 0 [0] cJ0 ?_
 refine wR0 100 [2] cJ0 ?_
 refine wP ?_
 exact qad rfl
theorem quX (c:Int):TP Tryz.prog 178 [.int .u8 c] (.bool (qie c)):=by
 refine qan fn178 (by simp) ?_
 unfold i178
 simp only[argL]
 refine wR0 0 [0] cJ0 ?_
 refine wRn 100 [2] cJ0 ?_
 refine rC cJ0 ?_
 refine⟨_,qkL c,rN cJ0 ?_⟩
 refine rCi cJ0 ?_
 refine⟨_,fun hw=>qsk c,rE cJ0 ?_⟩
 refine wP ?_
 exact qad rfl
def runN (s:ByteArray):Nat→Int→Int
 | 0,i=>i
 | n+1,i=>if qie (qbP s i)=true then runN s n (i+1) else i
theorem qte (s:ByteArray)(hs:s.size≤1000000)(Q:IExit→(Nat→T)→Heap→Prop):∀(n i:Nat),i+n=s.size→
 (∀b,Q (.exit 0) (ofL [(0,.str s),(1,.fn 178 []),(5,.int .i64 (runN s n i)),(16,b)]) (hpL []))→
 WL Tryz.prog 20 qjv (ofL [(0,.str s),(1,.fn 178 []),(5,.int .i64 i)]) (hpL []) Q:=by
 intro n
 induction n with
 | zero=>
  intro i hi hQ
  have hd:decide ((i:Int)<(s.size:Int))=false:=decide_eq_false (by omega)
  have fX:=@hd
  refine qaa qjv.eq_1 ?_
  refine wR0 200 [0,1,5,16] fX ?_
  refine wF @hd ?_
  refine wX ?_
  refine wN ?_
  exact hQ _
 | succ n ih=>
  intro i hi hQ
  have hlt:(i:Int).toNat<s.size:=by omega
  have hd:decide ((i:Int)<(s.size:Int))=true:=decide_eq_true (by omega)
  have hw:IntKind.wrap .i64 ((i:Int)+1)=(i:Int)+1:=wrap64 (by omega) (by omega)
  have fX:=(cJ2 @hd @hw)
  refine qaa qjv.eq_1 ?_
  refine wRn 200 [0,1,5,16] fX ?_
  refine rCv fX ?_
  refine⟨_,quX (qbP s i),rE fX ?_⟩
  refine wS cJ0 (fun hc200=>?_) (fun hc200=>?_)
  ·skip
   refine wR0 300 [0,1,5] fX ?_
   refine wN ?_
   have e:runN s (n+1) i=runN s n ((i+1:Nat):Int):=(by rw[runN,if_pos hc200];rfl)
   rw[e] at hQ
   exact ih (i+1) (by omega) hQ
  ·skip
   refine wX ?_
   refine wN ?_
   have e:runN s (n+1) i=i:=(by rw[runN,if_neg (by rw[hc200];simp)])
   rw[e] at hQ
   exact hQ _
theorem run_tp (s:ByteArray)(hs:s.size≤1000000):TP Tryz.prog 177 [.str s,.fn 178 []] (.int .i64 (runN s s.size 0)):=by
 refine qan fn177 (by simp) ?_
 unfold i177
 simp only[argL]
 refine wR0 0 [0,1] cJ0 ?_
 refine wR0 100 [0,1,5] cJ0 ?_
 refine wL ?_
 refine qte s hs _ s.size 0 (by omega) ?_
 ·intro b
  refine wN ?_
  refine wR0 400 [4] cJ0 ?_
  refine wP ?_
  exact qaW rfl
def qfa (s:ByteArray):Bool:=!(s.toList==ByteArray.toList ⟨#[]⟩)&&decide ((s.size:Int)≤12)&&letB (qbP s 0)&&(runN s s.size 0==(s.size:Int))
theorem qnZ {s:ByteArray}(h:(s.toList==ByteArray.toList ⟨#[]⟩)=false):0<s.size:=by
 rcases Nat.eq_zero_or_pos s.size with h0 | h0
 ·exfalso
  have hs:s=⟨#[]⟩:=by
   obtain⟨d⟩:=s
   have:d.size=0:=h0
   congr 1
   exact Array.eq_empty_of_size_eq_zero this
  rw[hs] at h
  simp at h
 ·exact h0
theorem qrT (s:ByteArray)(hs:s.size≤1000000):TP Tryz.prog 135 [.str s] (.bool (qfa s)):=by
 rcases he:(s.toList==ByteArray.toList ⟨#[]⟩) with _ | _
 ·have hp:=qnZ he
  have h0:(0:Int).toNat<s.size:=hp
  refine qan fn135 (by simp) ?_
  unfold i135
  simp only[argL]
  refine wR0 0 [0] cJ0 ?_
  refine wRn 100 [2] (cJ6 @binS.eq_1 @binS.eq_2 @binS.eq_3 @he @Bool.not_false @Bool.true_and) ?_
  refine rCi (cJ6 @binS.eq_1 @binS.eq_2 @binS.eq_3 @he @Bool.not_false @Bool.true_and) ?_
  refine⟨_,fun hw=>qkL (qbP s 0),rN (cJ6 @binS.eq_1 @binS.eq_2 @binS.eq_3 @he @Bool.not_false @Bool.true_and) ?_⟩
  refine rCi (cJ6 @binS.eq_1 @binS.eq_2 @binS.eq_3 @he @Bool.not_false @Bool.true_and) ?_
  refine⟨_,fun hw=>run_tp s hs,rE (cJ6 @binS.eq_1 @binS.eq_2 @binS.eq_3 @he @Bool.not_false @Bool.true_and) ?_⟩
  refine wP ?_
  exact qad (by rw[qfa,he];simp[Bool.and_assoc])
 ·refine qan fn135 (by simp) ?_
  unfold i135
  simp only[argL]
  refine wR0 0 [0] cJ0 ?_
  refine wR0 100 [2] (cJ6 @binS.eq_1 @binS.eq_2 @binS.eq_3 @he @Bool.not_true @Bool.false_and) ?_
  refine wP ?_
  exact qad (by rw[qfa,he];simp)
def idxS (s:ByteArray):List ByteArray→Int→Int
 | [],_ => -1
 | k::ks,i=>if (s.toList==k.toList)=true then i else idxS s ks (i+1)
def inS (s:ByteArray)(l:List ByteArray):Bool:=l.any fun k=>s.toList==k.toList
theorem qqo (s:ByteArray):∀(ks:List ByteArray) (i:Int),0≤i→decide (idxS s ks i≥0)=inS s ks
 | [],i,_=>rfl
 | k::ks,i,hi=>by
  by_cases hp:(s.toList==k.toList)=true
  ·simp only[idxS,inS,List.any_cons,hp,Bool.true_or];exact decide_eq_true hi
  ·simp only[idxS,inS,List.any_cons,Bool.eq_false_iff.2 hp,Bool.false_or];exact qqo s ks (i+1) (by omega)
theorem qmq (s:ByteArray)(xs:List ByteArray)(hl:xs.length≤1000000)(Q:IExit→(Nat→T)→Heap→Prop):∀(rest pre:List ByteArray) (i:Nat),xs=pre++rest→pre.length=i→
 (idxS s rest i = -1→∀i:Int,Q (.exit 0) (ofL [(0,.list (qas xs)),(1,.str s),(7,.int .i64 (qas xs).length),(8,.int .i64 i),(9,.bool false)]) (hpL []))→
 (idxS s rest i ≠ -1→Q .ret (ofL [(4,.int .i64 (idxS s rest i))]) (hpL []))→
 WL Tryz.prog 19 qjz (ofL [(0,.list (qas xs)),(1,.str s),(7,.int .i64 (qas xs).length),(8,.int .i64 i)]) (hpL []) Q:=by
 intro rest
 induction rest with
 | nil=>
  intro pre i he hn hQ0 hQ1
  have hd:decide ((i:Int)<((qas xs).length:Int))=false:=by simp[qaf,he,hn]
  have fX:=@hd
  refine qaa qjz.eq_1 ?_
  refine wR0 200 [0,1,7,8,9] fX ?_
  refine wF @hd ?_
  refine wX ?_
  refine wN ?_
  exact hQ0 rfl _
 | cons k rest ih=>
  intro pre i he hn hQ0 hQ1
  have hlt:(i:Int)<((qas xs).length:Int):=by simp[qaf,he];omega
  have hlb:i≤1000000:=by rw[he] at hl;simp at hl;omega
  have hd:decide ((i:Int)<((qas xs).length:Int))=true:=decide_eq_true hlt
  have hg:(qas xs).getD (i:Int).toNat .undef=.str k:=by rw[Int.toNat_natCast,he,←hn];exact qdv _ k _
  have hw:IntKind.wrap .i64 ((i:Int)+1)=(i:Int)+1:=wrap64 (by omega) (by omega)
  have fX:=(cJ6 @hd @hg @hw @binS.eq_1 @binS.eq_2 @binS.eq_3)
  refine qaa qjz.eq_1 ?_
  refine wR0 200 [0,1,7,8,9] fX ?_
  refine wT @hd ?_
  refine wR0 300 [0,1,5,7,8] fX ?_
  refine wR0 400 [0,1,5,7,8,16] fX ?_
  refine wS cJ0 (fun hc400=>?_) (fun hc400=>?_)
  ·skip
   refine wR0 500 [4] fX ?_
   refine wE ?_
   refine wN ?_
   have e:idxS s (k::rest) i=i:=(by rw[idxS,if_pos hc400])
   rw[e] at hQ1
   exact hQ1 (by omega)
  ·skip
   refine wR0 600 [0,1,7,8] fX ?_
   refine wN ?_
   have e:idxS s (k::rest) i=idxS s rest ((i+1:Nat):Int):=(by rw[idxS,if_neg (by rw[hc400];simp)];rfl)
   rw[e] at hQ0 hQ1
   have:=ih (pre++[k]) (i+1) (by simp[he]) (by simp;omega) hQ0 hQ1
   simpa using this
theorem qrl (s:ByteArray)(xs:List ByteArray)(hl:xs.length≤1000000):TP Tryz.prog 204 [.list (qas xs),.str s] (.int .i64 (idxS s xs 0)):=by
 refine qan fn204 (by simp) ?_
 unfold i204
 simp only[argL]
 refine wR0 0 [0,1] cJ0 ?_
 refine wR0 100 [0,1,7,8] cJ0 ?_
 refine wL ?_
 refine qmq s xs hl _ xs [] 0 rfl rfl ?_ ?_
 ·intro h i
  refine wN ?_
  refine wR0 700 [4] cJ0 ?_
  refine wP ?_
  exact qaW h.symm
 ·intro h
  refine wN ?_
  exact⟨by simp,_,rfl,by exact .same rfl⟩
theorem qln (s:ByteArray)(xs:List ByteArray)(hl:xs.length≤1000000):TP Tryz.prog 179 [.list (qas xs),.str s] (.bool (inS s xs)):=by
 refine qan fn179 (by simp) ?_
 unfold i179
 simp only[argL]
 refine wR0 0 [0,1] cJ0 ?_
 refine wRn 100 [4] cJ0 ?_
 refine rC cJ0 ?_
 refine⟨_,qrl s xs hl,rE cJ0 ?_⟩
 refine wP ?_
 exact qad (qqo s xs 0 (by omega))
def kws:List ByteArray:=[⟨#[109,111,100,101,108]⟩,⟨#[115,116,97,116,101,115]⟩,⟨#[112,108,97,99,101,115]⟩,⟨#[108,101,116,116,101,114,115]⟩,⟨#[108,101,118,101,108,115]⟩,⟨#[97,103,101]⟩,⟨#[114,117,108,101]⟩,⟨#[110,101,101,100]⟩,⟨#[103,105,118,101]⟩,⟨#[109,111,118,101]⟩,⟨#[101,109,112,116,121]⟩,⟨#[115,101,110,100]⟩,⟨#[114,101,99,101,105,118,101]⟩,⟨#[112,97,116,104]⟩,⟨#[110,101,120,116]⟩,⟨#[116,97,107,101]⟩,⟨#[109,97,107,101]⟩,⟨#[115,116,97,114,116]⟩]
def kwT:List T:=[.str ⟨#[109,111,100,101,108]⟩,.str ⟨#[115,116,97,116,101,115]⟩,.str ⟨#[112,108,97,99,101,115]⟩,.str ⟨#[108,101,116,116,101,114,115]⟩,.str ⟨#[108,101,118,101,108,115]⟩,.str ⟨#[97,103,101]⟩,.str ⟨#[114,117,108,101]⟩,.str ⟨#[110,101,101,100]⟩,.str ⟨#[103,105,118,101]⟩,.str ⟨#[109,111,118,101]⟩,.str ⟨#[101,109,112,116,121]⟩,.str ⟨#[115,101,110,100]⟩,.str ⟨#[114,101,99,101,105,118,101]⟩,.str ⟨#[112,97,116,104]⟩,.str ⟨#[110,101,120,116]⟩,.str ⟨#[116,97,107,101]⟩,.str ⟨#[109,97,107,101]⟩,.str ⟨#[115,116,97,114,116]⟩]
theorem qiq (l:List ByteArray):Ones (qas l):=by
 intro c hc
 obtain⟨x,_,rfl⟩:=List.mem_map.1 hc
 rfl
theorem qbZ (l:List ByteArray):flat (qas l)=qas l:=by
 induction l with
 | nil=>rfl
 | cons x l ih=>simp only[qas,List.map_cons] at ih ⊢;rw[qbe,ih];rfl
theorem qgv (l:List ByteArray):qcP (esz 0) (qas l):=by
 intro c hc
 obtain⟨x,_,rfl⟩:=List.mem_map.1 hc
 rfl
theorem qd1 (l:List ByteArray):sizedB 0 (qas l)=true:=by
 rw[sizedB,List.all_eq_true]
 intro c hc
 obtain⟨x,_,rfl⟩:=List.mem_map.1 hc
 rfl
theorem qgL {H:Heap}{id ty n tot:Nat}(l:List ByteArray)(hb:H id=.live ⟨ty,qas l⟩)(hn:n=l.length)(ht:tot=l.length):Frz H (.sl id tot 0 0 n) (.list (qas l)):=by
 subst hn ht
 refine Frz.sl hb (qaf l) (by simp[esz]) (qaf l) (qgv l) (by rw[qbZ];exact qiq l) fun k hk=>?_
 rw[qbZ,Nat.zero_add]
 exact .same (qbb (qeO _ l) k)
theorem qgh {H:Heap}{D:Nat→Bool}{id ty n tot:Nat}(l:List ByteArray)(hb:H id=.live ⟨ty,qas l⟩)(hd:D id=false)(hn:n=l.length)(ht:tot=l.length):Fz H D (.sl id tot 0 0 n) (.list (qas l)):=by
 subst hn ht
 refine Fz.sl hb hd (qaf l) (by simp[esz]) (qaf l) (qgv l) (by rw[qbZ];exact qiq l) fun k hk=>?_
 rw[qbZ,Nat.zero_add]
 exact .same (qbb (qeO _ l) k)
def kwS (s:ByteArray):Bool:=inS s kws
set_option maxHeartbeats 2000000 in
theorem qiD (s:ByteArray):TP Tryz.prog 136 [.str s] (.bool (kwS s)):=by
 have hk:=qln s kws (by decide)
 have hkc:clL (fun i=>decide (i=100)) kwT=true:=rfl
 have hrp:repl 18 [T.str ⟨#[]⟩]=[.str ⟨#[]⟩,.str ⟨#[]⟩,.str ⟨#[]⟩,.str ⟨#[]⟩,.str ⟨#[]⟩,.str ⟨#[]⟩,.str ⟨#[]⟩,.str ⟨#[]⟩,.str ⟨#[]⟩,.str ⟨#[]⟩,.str ⟨#[]⟩,.str ⟨#[]⟩,.str ⟨#[]⟩,.str ⟨#[]⟩,.str ⟨#[]⟩,.str ⟨#[]⟩,.str ⟨#[]⟩,.str ⟨#[]⟩]:=rfl
 have fX:=@hrp
 refine qan fn136 (by simp) ?_
 unfold i136
 simp only[argL]
 refine wR0 0 [0] fX ?_
 refine wRn 100 [2] fX ?_
 refine rG [(100,.live ⟨9,kwT⟩)] fX ?_
 refine⟨_,_,hk,fZx,rE fX ?_⟩
 refine wP ?_
 exact qad rfl
theorem qs6 (s:ByteArray)(xs:List ByteArray)(hl:xs.length≤1000000)(hh:List (Nat×Slot))(Q:IExit→(Nat→T)→Heap→Prop):∀(rest pre:List ByteArray) (i:Nat),xs=pre++rest→pre.length=i→
 ((rest.any fun k=>k.toList==s.toList)=false→∀i:Int,Q (.exit 0) (ofL [(0,.str s),(3,.list (qas xs)),(4,.int .i64 i),(9,.bool false)]) (hpL hh))→
 ((rest.any fun k=>k.toList==s.toList)=true→Q .ret (ofL [(2,.bool true)]) (hpL hh))→
 WL Tryz.prog 18 qjn (ofL [(0,.str s),(3,.list (qas xs)),(4,.int .i64 i)]) (hpL hh) Q:=by
 intro rest
 induction rest with
 | nil=>
  intro pre i he hn hQ0 hQ1
  have hd:decide ((i:Int)<((qas xs).length:Int))=false:=by simp[qaf,he,hn]
  have fX:=@hd
  refine qaa qjn.eq_1 ?_
  refine wR0 300 [0,3,4,9] fX ?_
  refine wF @hd ?_
  refine wX ?_
  refine wN ?_
  exact hQ0 rfl _
 | cons k rest ih=>
  intro pre i he hn hQ0 hQ1
  have hlt:(i:Int)<((qas xs).length:Int):=by simp[qaf,he];omega
  have hlb:i≤1000000:=by rw[he] at hl;simp at hl;omega
  have hd:decide ((i:Int)<((qas xs).length:Int))=true:=decide_eq_true hlt
  have hg:(qas xs).getD (i:Int).toNat .undef=.str k:=by rw[Int.toNat_natCast,he,←hn];exact qdv _ k _
  have hw:IntKind.wrap .i64 ((i:Int)+1)=(i:Int)+1:=wrap64 (by omega) (by omega)
  have fX:=(cJ6 @hd @hg @hw @binS.eq_1 @binS.eq_2 @binS.eq_3)
  refine qaa qjn.eq_1 ?_
  refine wR0 300 [0,3,4,9] fX ?_
  refine wT @hd ?_
  refine wR0 400 [0,3,4,17] fX ?_
  refine wS cJ0 (fun hc400=>?_) (fun hc400=>?_)
  ·skip
   refine wR0 500 [2] fX ?_
   refine wE ?_
   refine wN ?_
   exact hQ1 (by rw[List.any_cons,hc400,Bool.true_or])
  ·skip
   refine wR0 600 [0,3,4] fX ?_
   refine wN ?_
   have e:((k::rest).any fun k=>k.toList==s.toList)=(rest.any fun k=>k.toList==s.toList):=(by rw[List.any_cons,hc400,Bool.false_or])
   rw[e] at hQ0 hQ1
   exact ih (pre++[k]) (i+1) (by simp[he]) (by simp;omega) hQ0 hQ1
theorem qtZ (s:ByteArray):kwS s=kws.any fun k=>k.toList==s.toList:=by
 unfold kwS inS
 congr 1
 funext k
 rw[Bool.eq_iff_iff,beq_iff_eq,beq_iff_eq];exact eq_comm
set_option maxHeartbeats 2000000 in
theorem qmj (s:ByteArray):TP Tryz.prog 148 [.str s] (.bool (kwS s)):=by
 have hrp:repl 18 [T.str ⟨#[]⟩]=[.str ⟨#[]⟩,.str ⟨#[]⟩,.str ⟨#[]⟩,.str ⟨#[]⟩,.str ⟨#[]⟩,.str ⟨#[]⟩,.str ⟨#[]⟩,.str ⟨#[]⟩,.str ⟨#[]⟩,.str ⟨#[]⟩,.str ⟨#[]⟩,.str ⟨#[]⟩,.str ⟨#[]⟩,.str ⟨#[]⟩,.str ⟨#[]⟩,.str ⟨#[]⟩,.str ⟨#[]⟩,.str ⟨#[]⟩]:=rfl
 have fX:=@hrp
 refine qan fn148 (by simp) ?_
 unfold i148
 simp only[argL]
 refine wR0 0 [0] fX ?_
 refine wR0 100 [0,3] fX ?_
 simp only[thn]
 refine qbW (l':=[(0,.str s),(3,.list (qas kws))]) (hl':=[(100,.dead)]) [] (.cons (.same rfl) (.cons (qgh (ty:=9) kws rfl rfl rfl rfl) .nil)) (.dead rfl (fun h=>by cases h) .nil) ?_
 refine wR0 200 [0,3,4] fX ?_
 refine wL ?_
 refine qs6 s kws (by decide) _ _ kws [] 0 rfl rfl ?_ ?_
 ·intro h i
  refine wN ?_
  refine wR0 700 [2] fX ?_
  refine wP ?_
  exact qad (by rw[qtZ,h])
 ·intro h
  refine wN ?_
  exact⟨by simp,_,rfl,by exact qad (by rw[qtZ,h])⟩
theorem qo2 (c:Int):TP Tryz.prog 190 [.int .u8 c] (.bool (qie c)):=by
 rcases h1:(decide (c≥97)&&decide (c≤122)) with _ | _
 ·refine qan fn190 (by simp) ?_
  unfold i190
  simp only[argL]
  refine wR0 0 [0] cJ0 ?_
  refine wR0 100 [2] @h1 ?_
  refine wP ?_
  exact qad (by simp only[qie,letB,digB,h1,Bool.false_or])
 ·refine qan fn190 (by simp) ?_
  unfold i190
  simp only[argL]
  refine wR0 0 [0] cJ0 ?_
  refine wR0 100 [2] @h1 ?_
  refine wP ?_
  exact qad (by simp only[qie,letB,h1,Bool.true_or])
def allN (s:ByteArray):Nat→Int→Bool
 | 0,i=>true
 | n+1,i=>qie (qbP s i)&&allN s n (i+1)
theorem qrc (s:ByteArray):∀(n:Nat) (i:Int),i≤runN s n i∧runN s n i≤i+n
 | 0,i=>by simp[runN]
 | n+1,i=>by
  have:=qrc s n (i+1)
  unfold runN
  split<;>omega
theorem qnQ (s:ByteArray):∀(n:Nat) (i:Int),(runN s n i==i+n)=allN s n i
 | 0,i=>by simp[runN,allN]
 | n+1,i=>by
  have h:=qnQ s n (i+1)
  have hl:=qrc s n (i+1)
  cases hp:qie (qbP s i) with
  | true=>
   rw[runN,if_pos hp,allN,hp,Bool.true_and,←h]
   congr 1
   omega
  | false=>
   rw[runN,if_neg (by rw[hp];simp),allN,hp,Bool.false_and]
   simp;omega
def qpq (s:ByteArray):Bool:=allN s s.size 0&&(decide ((s.size:Int)≥1)&&decide ((s.size:Int)≤12)&&decide (qbP s 0≥97)&&decide (qbP s 0≤122))
theorem qtJ (s:ByteArray):qpq s=qfa s:=by
 have h:=qnQ s s.size 0
 rw[Int.zero_add] at h
 unfold qpq qfa letB
 rw[h]
 have he:(!(s.toList==ByteArray.toList ⟨#[]⟩))=decide ((s.size:Int)≥1):=by
  cases hq:(s.toList==ByteArray.toList ⟨#[]⟩) with
  | false=>have:=qnZ hq;simp;omega
  | true=>
   have hs:s=⟨#[]⟩:=by
    have h1:s.toList=ByteArray.toList ⟨#[]⟩:=by simpa using hq
    rw[ByteArray.toList_eq,ByteArray.toList_eq] at h1
    obtain⟨⟨d⟩⟩:=s
    simp at h1
    subst h1;rfl
   rw[hs];rfl
 rw[he]
 generalize allN s s.size 0=a
 generalize decide ((s.size:Int)≥1)=b
 generalize decide ((s.size:Int)≤12)=c
 generalize decide (qbP s 0≥97)=d
 generalize decide (qbP s 0≤122)=e
 cases a<;>cases b<;>cases c<;>cases d<;>cases e<;>rfl
theorem qiP (s:ByteArray)(hs:s.size≤1000000)(Q:IExit→(Nat→T)→Heap→Prop):∀(n i:Nat),i+n=s.size→
 (allN s n i=true→∀i:Int,Q (.exit 0) (ofL [(0,.str s),(3,.int .i64 i),(7,.bool false)]) (hpL []))→
 (allN s n i=false→Q .ret (ofL [(2,.bool false)]) (hpL []))→
 WL Tryz.prog 33 qjm (ofL [(0,.str s),(3,.int .i64 i)]) (hpL []) Q:=by
 intro n
 induction n with
 | zero=>
  intro i hi hQ0 hQ1
  have hd:decide ((i:Int)<(s.size:Int))=false:=decide_eq_false (by omega)
  have fX:=@hd
  refine qaa qjm.eq_1 ?_
  refine wR0 200 [0,3,7] fX ?_
  refine wF @hd ?_
  refine wX ?_
  refine wN ?_
  exact hQ0 rfl _
 | succ n ih=>
  intro i hi hQ0 hQ1
  have hlt:(i:Int).toNat<s.size:=by omega
  have hd:decide ((i:Int)<(s.size:Int))=true:=decide_eq_true (by omega)
  have hw:IntKind.wrap .i64 ((i:Int)+1)=(i:Int)+1:=wrap64 (by omega) (by omega)
  have fX:=(cJ2 @hd @hw)
  refine qaa qjm.eq_1 ?_
  refine wR0 200 [0,3,7] fX ?_
  refine wT @hd ?_
  refine wRn 300 [0,3,14] fX ?_
  refine rC fX ?_
  refine⟨_,qo2 (qbP s i),rE fX ?_⟩
  refine wS cJ0 (fun hc300=>?_) (fun hc300=>?_)
  ·skip
   refine wR0 400 [2] fX ?_
   refine wE ?_
   refine wN ?_
   simp at hc300
   exact hQ1 (by rw[allN,hc300];rfl)
  ·skip
   refine wR0 500 [0,3] fX ?_
   refine wN ?_
   simp at hc300
   have e:allN s (n+1) i=allN s n ((i+1:Nat):Int):=(by rw[allN,hc300];rfl)
   rw[e] at hQ0 hQ1
   exact ih (i+1) (by omega) hQ0 hQ1
theorem qtf (s:ByteArray)(hs:s.size≤1000000):TP Tryz.prog 147 [.str s] (.bool (qfa s)):=by
 rw[←qtJ]
 rcases h1:decide ((s.size:Int)≥1) with _ | _
 ·refine qan fn147 (by simp) ?_
  unfold i147
  simp only[argL]
  refine wR0 0 [0] cJ0 ?_
  refine wR0 100 [0,3] cJ0 ?_
  refine wL ?_
  refine qiP s hs _ s.size 0 (by omega) ?_ ?_
  ·intro h i
   refine wN ?_
   refine wR0 600 [2] @h1 ?_
   refine wP ?_
   exact qad (by have h':allN s s.size 0=true:=h;rw[qpq,h',h1];simp)
  ·intro h
   refine wN ?_
   exact⟨by simp,_,rfl,by exact qad (by have h':allN s s.size 0=false:=h;rw[qpq,h'];simp)⟩
 ·have h0:(0:Int).toNat<s.size:=by simp at h1;simp;omega
  refine qan fn147 (by simp) ?_
  unfold i147
  simp only[argL]
  refine wR0 0 [0] cJ0 ?_
  refine wR0 100 [0,3] cJ0 ?_
  refine wL ?_
  refine qiP s hs _ s.size 0 (by omega) ?_ ?_
  ·intro h i
   refine wN ?_
   refine wR0 600 [2] @h1 ?_
   refine wP ?_
   exact qad (by have h':allN s s.size 0=true:=h;rw[qpq,h',h1];simp)
  ·intro h
   refine wN ?_
   exact⟨by simp,_,rfl,by exact qad (by have h':allN s s.size 0=false:=h;rw[qpq,h'];simp)⟩
end
end Go.Proofs.YtpplncjaihgimaaGreat
