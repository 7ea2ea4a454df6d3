/- Contracts of functions of the program, for all arguments that they name. -/
import Derived.Test.YtoeeppojakbciaaGreatK10
namespace Go.Proofs.YtoeeppojakbciaaGreat
set_option linter.unusedVariables false
section
open Go.RowKit
set_option maxHeartbeats 2000000
def qau (l:List ByteArray):List T:=l.map .str
theorem qaf (l:List ByteArray):(qau l).length=l.length:=by simp[qau]
theorem qc3 (pre:List ByteArray)(k:ByteArray)(ks:List ByteArray):(qau (pre++k::ks)).getD pre.length .undef=.str k:=by
 simp[qau,List.getD_eq_getElem?_getD]
theorem qcj (xs ys:List ByteArray):qau (xs++ys)=qau xs++qau ys:=by simp[qau]
@[simp] theorem qaU (D:Nat→Bool)(l:List ByteArray):clL D (qau l)=true:=by
 induction l with
 | nil=>rfl
 | cons x l ih=>simpa [qau,clL,T.cl] using ih
structure Tk where
 place:Int
 low:Int
 high:Int
def qm0 (t:Tk):T:=.agg [.int .i64 t.place,.int .i64 t.low,.int .i64 t.high]
def qbz (l:List Tk):List T:=l.map qm0
theorem qb9 (l:List Tk):(qbz l).length=l.length:=by simp[qbz]
theorem qhB (pre:List Tk)(k:Tk)(ks:List Tk):(qbz (pre++k::ks)).getD pre.length .undef=qm0 k:=by
 simp[qbz,List.getD_eq_getElem?_getD]
@[simp] theorem encTk_cl (D:Nat→Bool)(t:Tk):(qm0 t).cl D=true:=rfl
@[simp] theorem qow (D:Nat→Bool)(l:List Tk):clL D (qbz l)=true:=by
 induction l with
 | nil=>rfl
 | cons x l ih=>simpa [qbz,clL] using ih
structure Rl where
 name:ByteArray
 from_:Int
 to_:Int
 need:List Int
 give:List Int
 move:List Int
 chan:Int
 act:Int
 lett:Int
 path:List Int
 next:List Int
 takes:List Tk
 makes:List Int
 second:Int
def rlC (r:Rl):List T:=[.str r.name,.int .i64 r.from_,.int .i64 r.to_,.list (qac r.need),.list (qac r.give),.list (qac r.move),.int .i64 r.chan,.int .i64 r.act,.int .i64 r.lett,.list (qac r.path),.list (qac r.next),.list (qbz r.takes),.list (qac r.makes),.int .i64 r.second]
def qa0 (r:Rl):T:=.agg (rlC r)
def qaB (l:List Rl):List T:=l.map qa0
theorem qaD (l:List Rl):(qaB l).length=l.length:=by simp[qaB]
theorem qc2 (pre:List Rl)(k:Rl)(ks:List Rl):(qaB (pre++k::ks)).getD pre.length .undef=qa0 k:=by
 simp[qaB,List.getD_eq_getElem?_getD]
@[simp] theorem rlC_cl (D:Nat→Bool)(r:Rl):clL D (rlC r)=true:=by simp[rlC,clL,T.cl]
@[simp] theorem qqG (D:Nat→Bool)(r:Rl):(qa0 r).cl D=true:=by simp[qa0,T.cl]
@[simp] theorem qal (D:Nat→Bool)(l:List Rl):clL D (qaB l)=true:=by
 induction l with
 | nil=>rfl
 | cons x l ih=>simp only[qaB,List.map_cons,clL,qqG,Bool.true_and];exact ih
structure Md where
 kind:Int
 states:List ByteArray
 places:List ByteArray
 letters:List ByteArray
 ranks:List Int
 levels:Int
 age:Int
 rules:List Rl
 start:V
def mdC (m:Md):List T:=[.int .i64 m.kind,.list (qau m.states),.list (qau m.places),.list (qau m.letters),.list (qac m.ranks),.int .i64 m.levels,.int .i64 m.age,.list (qaB m.rules),.int .i64 m.start.n,.list (qag m.start.kids)]
def qas (m:Md):T:=.agg (mdC m)
@[simp] theorem qmd (D:Nat→Bool)(m:Md):clL D (mdC m)=true:=by simp[mdC,clL,T.cl]
@[simp] theorem qqF (D:Nat→Bool)(m:Md):(qas m).cl D=true:=by simp[qas,T.cl]
def kindOk (k:Int):Prop:=k=1
structure Rl.fit (r:Rl):Prop where
 need:r.need.length≤1000000
 give:r.give.length≤1000000
 move:r.move.length≤1000000
 path:r.path.length≤1000000
 next:r.next.length≤1000000
 takes:r.takes.length≤1000000
 makes:r.makes.length≤1000000
 name:r.name.size≤1000000
structure Md.fit (m:Md):Prop where
 states:m.states.length≤1000
 places:m.places.length≤1000
 letters:m.letters.length≤1000
 ranks:m.ranks.length≤1000000
 rules:m.rules.length≤1000
 rule:∀r∈m.rules,r.fit
 start:m.start.fit
 names:∀s∈m.states++m.places++m.letters,s.size≤1000000
 kd:kindOk m.kind
def btw (x a b:Int):Bool:=decide (x≥a)&&decide (x≤b)
theorem qbm (x a b:Int):TP Tryz.prog 79 [.int .i64 x,.int .i64 a,.int .i64 b] (.bool (btw x a b)):=by
 refine qah fn79 (by simp) ?_
 unfold i79
 simp only[argL]
 refine wR0 0 [0,1,2] cJ0 ?_
 refine wR0 100 [6] cJ0 ?_
 refine wP ?_
 exact qab rfl
theorem qat (x a b:Int):TP Tryz.prog 108 [.int .i64 x,.int .i64 a,.int .i64 b] (.bool (btw x a b)):=by
 refine qah fn108 (by simp) ?_
 unfold i108
 simp only[argL]
 refine wR0 0 [0,1,2] cJ0 ?_
 refine wR0 100 [6] cJ0 ?_
 refine wP ?_
 exact qab rfl
theorem qfW (x n:Int)(hn:-1000000000000≤n∧n≤1000000000000):TP Tryz.prog 139 [.int .i64 x,.int .i64 n] (.bool (btw x 0 (n - 1))):=by
 have hw:IntKind.wrap .i64 (n - 1)=n - 1:=wrap64 (by omega) (by omega)
 have fX:=@hw
 refine qah fn139 (by simp) ?_
 unfold i139
 simp only[argL]
 refine wR0 0 [0,1] fX ?_
 refine wRn 100 [4] fX ?_
 refine rC fX ?_
 refine⟨_,qbm x 0 (n - 1),rE fX ?_⟩
 refine wP ?_
 exact qab rfl
def limC (k:Int):List Int:=
 if k=1∨k=6 then [1,6,0,0,0,0,0,0] else if k=2∨k=3 then [1,2,1,6,0,0,0,0] else if k=4 then [0,0,1,6,1,2,0,0] else [1,6,0,0,0,0,0,3]
theorem qo7 (k:Int):TP Tryz.prog 133 [.int .i64 k] (.agg (qac (limC k))):=by
 have tk:∀(c:Int),(k==c)=true→k=c:=fun c h=>by simpa using h
 have fk:∀(c:Int),(k==c)=false→k≠c:=fun c h=>by simpa using h
 refine qah fn133 (by simp) ?_
 unfold i133
 simp only[argL]
 refine wR0 0 [0,2] cJ0 ?_
 refine wR0 100 [0,2,3] cJ0 ?_
 refine wR0 200 [2,3,5] cJ0 ?_
 refine wR0 300 [2,3,5,10] cJ0 ?_
 refine wS cJ0 (fun hc300=>?_) (fun hc300=>?_)
 ·skip
  refine wT @hc300 ?_
  refine wR0 500 [2,3] cJ0 ?_
  refine wR0 1200 [2] cJ0 ?_
  refine wP ?_
  first | (have h1:k=1∨k=6:=(by first | exact .inl (tk _ hc300) | exact .inr (tk _ hc400));rw[limC,if_pos h1];exact .same rfl) | (rw[limC,if_neg (fun h=>h.elim (fk _ hc300) (fk _ hc400))];first | (have h2:k=2∨k=3:=(by first | exact .inl (tk _ hc600) | exact .inr (tk _ hc700));rw[if_pos h2];exact .same rfl) | (rw[if_neg (fun h=>h.elim (fk _ hc600) (fk _ hc700))];first | (have h3:=tk _ hc900;rw[if_pos h3];exact .same rfl) | (rw[if_neg (fk _ hc900)];exact .same rfl)))
 ·skip
  refine wR0 400 [2,3,5,10] cJ0 ?_
  refine wS cJ0 (fun hc400=>?_) (fun hc400=>?_)
  ·skip
   refine wR0 500 [2,3] cJ0 ?_
   refine wR0 1200 [2] cJ0 ?_
   refine wP ?_
   first | (have h1:k=1∨k=6:=(by first | exact .inl (tk _ hc300) | exact .inr (tk _ hc400));rw[limC,if_pos h1];exact .same rfl) | (rw[limC,if_neg (fun h=>h.elim (fk _ hc300) (fk _ hc400))];first | (have h2:k=2∨k=3:=(by first | exact .inl (tk _ hc600) | exact .inr (tk _ hc700));rw[if_pos h2];exact .same rfl) | (rw[if_neg (fun h=>h.elim (fk _ hc600) (fk _ hc700))];first | (have h3:=tk _ hc900;rw[if_pos h3];exact .same rfl) | (rw[if_neg (fk _ hc900)];exact .same rfl)))
  ·skip
   refine wR0 600 [2,3,5,15] cJ0 ?_
   refine wS cJ0 (fun hc600=>?_) (fun hc600=>?_)
   ·skip
    refine wT @hc600 ?_
    refine wR0 800 [2,3] cJ0 ?_
    refine wR0 1200 [2] cJ0 ?_
    refine wP ?_
    first | (have h1:k=1∨k=6:=(by first | exact .inl (tk _ hc300) | exact .inr (tk _ hc400));rw[limC,if_pos h1];exact .same rfl) | (rw[limC,if_neg (fun h=>h.elim (fk _ hc300) (fk _ hc400))];first | (have h2:k=2∨k=3:=(by first | exact .inl (tk _ hc600) | exact .inr (tk _ hc700));rw[if_pos h2];exact .same rfl) | (rw[if_neg (fun h=>h.elim (fk _ hc600) (fk _ hc700))];first | (have h3:=tk _ hc900;rw[if_pos h3];exact .same rfl) | (rw[if_neg (fk _ hc900)];exact .same rfl)))
   ·skip
    refine wR0 700 [2,3,5,15] cJ0 ?_
    refine wS cJ0 (fun hc700=>?_) (fun hc700=>?_)
    ·skip
     refine wR0 800 [2,3] cJ0 ?_
     refine wR0 1200 [2] cJ0 ?_
     refine wP ?_
     first | (have h1:k=1∨k=6:=(by first | exact .inl (tk _ hc300) | exact .inr (tk _ hc400));rw[limC,if_pos h1];exact .same rfl) | (rw[limC,if_neg (fun h=>h.elim (fk _ hc300) (fk _ hc400))];first | (have h2:k=2∨k=3:=(by first | exact .inl (tk _ hc600) | exact .inr (tk _ hc700));rw[if_pos h2];exact .same rfl) | (rw[if_neg (fun h=>h.elim (fk _ hc600) (fk _ hc700))];first | (have h3:=tk _ hc900;rw[if_pos h3];exact .same rfl) | (rw[if_neg (fk _ hc900)];exact .same rfl)))
    ·skip
     refine wR0 900 [2,3,22] cJ0 ?_
     refine wS cJ0 (fun hc900=>?_) (fun hc900=>?_)
     ·skip
      refine wR0 1000 [2,3] cJ0 ?_
      refine wR0 1200 [2] cJ0 ?_
      refine wP ?_
      first | (have h1:k=1∨k=6:=(by first | exact .inl (tk _ hc300) | exact .inr (tk _ hc400));rw[limC,if_pos h1];exact .same rfl) | (rw[limC,if_neg (fun h=>h.elim (fk _ hc300) (fk _ hc400))];first | (have h2:k=2∨k=3:=(by first | exact .inl (tk _ hc600) | exact .inr (tk _ hc700));rw[if_pos h2];exact .same rfl) | (rw[if_neg (fun h=>h.elim (fk _ hc600) (fk _ hc700))];first | (have h3:=tk _ hc900;rw[if_pos h3];exact .same rfl) | (rw[if_neg (fk _ hc900)];exact .same rfl)))
     ·skip
      refine wR0 1100 [2,3] cJ0 ?_
      refine wR0 1200 [2] cJ0 ?_
      refine wP ?_
      first | (have h1:k=1∨k=6:=(by first | exact .inl (tk _ hc300) | exact .inr (tk _ hc400));rw[limC,if_pos h1];exact .same rfl) | (rw[limC,if_neg (fun h=>h.elim (fk _ hc300) (fk _ hc400))];first | (have h2:k=2∨k=3:=(by first | exact .inl (tk _ hc600) | exact .inr (tk _ hc700));rw[if_pos h2];exact .same rfl) | (rw[if_neg (fun h=>h.elim (fk _ hc600) (fk _ hc700))];first | (have h3:=tk _ hc900;rw[if_pos h3];exact .same rfl) | (rw[if_neg (fk _ hc900)];exact .same rfl)))
def qaR (m:Md):Bool:=
 btw m.states.length 1 8&&decide ((m.rules.length:Int)≤12)&&btw m.places.length ((limC m.kind).getD 0 0) ((limC m.kind).getD 1 0)&&btw m.letters.length ((limC m.kind).getD 2 0) ((limC m.kind).getD 3 0)&&
  btw m.levels ((limC m.kind).getD 4 0) ((limC m.kind).getD 5 0)&&btw m.age ((limC m.kind).getD 6 0) ((limC m.kind).getD 7 0)
theorem qtt (k:Int):∃a b c d e f g h,limC k=[a,b,c,d,e,f,g,h]:=by
 unfold limC
 (repeat' split)<;>exact⟨_,_,_,_,_,_,_,_,rfl⟩
set_option maxHeartbeats 4000000 in
theorem qrP (m:Md):TP Tryz.prog 80 [qas m] (.bool (qaR m)):=by
 have hof:=qo7 m.kind
 obtain⟨a,b,c,d,e,f,g,h,hl⟩:=qtt m.kind
 rw[hl] at hof
 have fX:=@qac.eq_1
 refine qah fn80 (by simp) ?_
 unfold i80
 simp only[argL,qas,mdC]
 refine wR0 0 [1] fX ?_
 refine wRn 100 [1,3] fX ?_
 refine rC fX ?_
 refine⟨_,hof,rE fX ?_⟩
 refine wRn 200 [2] fX ?_
 refine rC fX ?_
 refine⟨_,qbm _ _ _,rN fX ?_⟩
 refine rCi fX ?_
 refine⟨_,fun hw=>qbm _ _ _,rN fX ?_⟩
 refine rCi fX ?_
 refine⟨_,fun hw=>qbm _ _ _,rN fX ?_⟩
 refine rCi fX ?_
 refine⟨_,fun hw=>qbm _ _ _,rN fX ?_⟩
 refine rCi fX ?_
 refine⟨_,fun hw=>qbm _ _ _,rE fX ?_⟩
 refine wP ?_
 exact qab (by simp[qaR,hl,qaf,qaD])
theorem qnr (x:Int):TP Tryz.prog 134 [.int .i64 x] (.bool (!btw x 0 5)):=by
 refine qah fn134 (by simp) ?_
 unfold i134
 simp only[argL]
 refine wR0 0 [0] cJ0 ?_
 refine wRn 100 [2] cJ0 ?_
 refine rC cJ0 ?_
 refine⟨_,qbm x 0 5,rE cJ0 ?_⟩
 refine wP ?_
 exact qab rfl
def qcT (m:Md):Bool:=if m.kind≠3 then (m.ranks.length:Int)==0 else ((m.ranks.length:Int)==m.letters.length)&&!m.ranks.any fun x=>!btw x 0 5
theorem qpo (m:Md)(hm:m.fit):TP Tryz.prog 81 [qas m] (.bool (qcT m)):=by
 refine qah fn81 (by simp) ?_
 unfold i81
 simp only[argL,qas,mdC]
 refine wR0 0 [1] cJ0 ?_
 refine wR0 100 [1,5] cJ0 ?_
 refine wS cJ0 (fun hc100=>?_) (fun hc100=>?_)
 ·skip
  refine wR0 200 [2] cJ0 ?_
  refine wP ?_
  exact qab (by simp at hc100;rw[qcT,if_pos hc100,qad])
 ·skip
  refine wRn 300 [2] cJ0 ?_
  refine rCi cJ0 ?_
  refine⟨_,fun hw=>qjd 134 [] rfl (fun x=>!btw x 0 5) m.ranks hm.ranks (fun k hk=>qnr k),rE cJ0 ?_⟩
  refine wP ?_
  exact qab (by simp at hc100;rw[qcT,if_neg (by simp[hc100]),qad,qaf])
end
end Go.Proofs.YtoeeppojakbciaaGreat
