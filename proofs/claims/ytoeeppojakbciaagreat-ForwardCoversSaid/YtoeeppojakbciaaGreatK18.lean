/- Contracts of functions of the program, for all arguments that they name. -/
import Derived.Test.YtoeeppojakbciaaGreatK17
namespace Go.Proofs.YtoeeppojakbciaaGreat
set_option linter.unusedVariables false
section
open Go.RowKit
set_option maxHeartbeats 2000000
theorem qsm (s:ByteArray)(l:List ByteArray):inS s l=l.any fun k=>k.toList==s.toList:=by
 unfold inS
 congr 1
 funext k
 rw[Bool.eq_iff_iff,beq_iff_eq,beq_iff_eq];exact eq_comm
theorem qe4 (m:Md)(hl:m.rules.length≤1000)(P1 P2:List T)(hP1:∀D,clL D P1=true)(hP2:∀D,clL D P2=true)(Q:IExit→(Nat→T)→Heap→Prop):∀(rest pre:List Rl) (i N:Nat) (C:List T) (done:List ByteArray),N=done.length→C=qau done→m.rules=pre++rest→pre.length=i→done.length≤10000+i→
 (∀(i:Int),Q (.exit 0) (ofL [(1,.ref 0 10 0),(3,.sl 102 (done++rest.map (·.name)).length 0 0 (done++rest.map (·.name)).length),(4,.int .i64 i),(20,.bool false)]) (hpL [(0,.live ⟨33,[.int .i64 m.kind,.list (qau m.states),.list P1,.list P2,.list (qac m.ranks),.int .i64 m.levels,.int .i64 m.age,.list (qaB m.rules),.int .i64 m.start.n,.list (qag m.start.kids)]⟩),(102,.live ⟨9,qau (done++rest.map (·.name))⟩)]))→
 WL Tryz.prog 65 qim (ofL [(1,.ref 0 10 0),(3,.sl 102 N 0 0 N),(4,.int .i64 i)]) (hpL [(0,.live ⟨33,[.int .i64 m.kind,.list (qau m.states),.list P1,.list P2,.list (qac m.ranks),.int .i64 m.levels,.int .i64 m.age,.list (qaB m.rules),.int .i64 m.start.n,.list (qag m.start.kids)]⟩),(102,.live ⟨9,C⟩)]) Q:=by
 intro rest
 induction rest with
 | nil=>
  intro pre i N C done hN hC he hn hdn hQ
  subst hN hC
  have hd:decide ((i:Int)<((qaB m.rules).length:Int))=false:=by simp[qaD,he,hn]
  simp only[List.map_nil,List.append_nil] at hQ
  have fX:=@hd
  refine qaa qim.eq_1 ?_
  refine wR0 300 [1,3,4,20] fX ?_
  refine wF @hd ?_
  refine wX ?_
  refine wN ?_
  exact hQ _
 | cons k rest ih=>
  intro pre i N C done hN hC he hn hdn hQ
  subst hN hC
  have hlt:(i:Int)<((qaB m.rules).length:Int):=by simp[qaD,he];omega
  have hlb:i≤1000:=by rw[he] at hl;simp at hl;omega
  have hd:decide ((i:Int)<((qaB m.rules).length:Int))=true:=decide_eq_true hlt
  have hg:(qaB m.rules).getD (i:Int).toNat .undef=.agg (rlC k):=by rw[Int.toNat_natCast,he,←hn];exact qc2 _ k _
  have hw:IntKind.wrap .i64 ((i:Int)+1)=(i:Int)+1:=wrap64 (by omega) (by omega)
  have hlen:(qau done).length=done.length:=qaf _
  have hdn':done.length≤20000:=by omega
  simp only[rlC] at hg
  have fX:=(cJ5 @hd @hg @hw @hlen @qee)
  refine qaa qim.eq_1 ?_
  refine W_gc ?_
  refine wR0 300 [1,3,4,20] fX ?_
  refine wT @hd ?_
  refine wR0 400 [1,3,4] fX ?_
  refine wR0 500 [1,3,4] fX ?_
  refine wN ?_
  refine qaP [0,102] (by simp[inL]) (by simp[inL,T.cl]) (by simp[qan,inL,Slot.cl,T.cl,clL,qap,hP1,hP2]) ?_
  have:=ih (pre++[k]) (i+1) _ _ (done++[k.name]) rfl rfl (by simp[he]) (by simp;omega) (by simp;omega) (by simpa using hQ)
  simpa [qan,inL,qau] using this
theorem qpv (xs:List ByteArray)(hl:xs.length≤1000000)(hh:List (Nat×Slot))(pre:List ByteArray)(s:ByteArray)(tl:List ByteArray)(i:Nat)(he:xs=pre++s::tl)(hi:pre.length=i)(Q:IExit→(Nat→T)→Heap→Prop):∀(q p1:List ByteArray) (k:Nat),pre=p1++q→p1.length=k→
 ((q.any fun k=>k.toList==s.toList)=false→∀(k:Int),Q (.exit 4) (ofL [(3,.list (qau xs)),(5,.int .i64 i),(6,.int .i64 k),(53,.bool false)]) (hpL hh))→
 ((q.any fun k=>k.toList==s.toList)=true→Q .ret (ofL [(2,.bool false)]) (hpL hh))→
 WL Tryz.prog 65 qio (ofL [(3,.list (qau xs)),(5,.int .i64 i),(6,.int .i64 k)]) (hpL hh) Q:=by
 have hlti:(i:Int)<((qau xs).length:Int):=by simp[qaf,he];omega
 have hlb:i≤1000000:=by rw[he] at hl;simp at hl;omega
 have hgi:(qau xs).getD (i:Int).toNat .undef=.str s:=by rw[Int.toNat_natCast,he,←hi];exact qc3 _ s _
 intro q
 induction q with
 | nil=>
  intro p1 k hp hk hQ0 hQ1
  have hki:k=i:=by rw[←hk,←hi,hp];simp
  subst hki
  have hd:decide ((k:Int)<(k:Int))=false:=by simp
  have fX:=@hd
  refine qaa qio.eq_1 ?_
  refine wR0 1100 [3,5,6,53] fX ?_
  refine wF @hd ?_
  refine wX ?_
  refine wN ?_
  exact hQ0 rfl _
 | cons x q ih=>
  intro p1 k hp hk hQ0 hQ1
  have hki:k<i:=by rw[←hk,←hi,hp];simp
  have hltk:(k:Int)<((qau xs).length:Int):=by omega
  have hd:decide ((k:Int)<(i:Int))=true:=decide_eq_true (by omega)
  have hgk:(qau xs).getD (k:Int).toNat .undef=.str x:=by
   have h:=qc3 p1 x (q++s::tl)
   rw[Int.toNat_natCast,he,hp,←hk];simpa using h
  have hw:IntKind.wrap .i64 ((k:Int)+1)=(k:Int)+1:=wrap64 (by omega) (by omega)
  have fX:=(cJ7 @hd @hgi @hgk @hw @binS.eq_1 @binS.eq_2 @binS.eq_3)
  refine qaa qio.eq_1 ?_
  refine wR0 1100 [3,5,6,53] fX ?_
  refine wT @hd ?_
  refine wR0 1200 [3,5,6,64] fX ?_
  refine wS cJ0 (fun hc1200=>?_) (fun hc1200=>?_)
  ·skip
   refine wR0 1300 [2] fX ?_
   refine wE ?_
   refine wN ?_
   exact hQ1 (by rw[List.any_cons,hc1200,Bool.true_or])
  ·skip
   refine wR0 1400 [3,5,6] fX ?_
   refine wN ?_
   have e:((x::q).any fun k=>k.toList==s.toList)=(q.any fun k=>k.toList==s.toList):=(by rw[List.any_cons,hc1200,Bool.false_or])
   rw[e] at hQ0 hQ1
   exact ih (p1++[x]) (k+1) (by simp[hp]) (by simp;omega) hQ0 hQ1
theorem qe5 (hh:List (Nat×Slot))(xs:List ByteArray)(hl:xs.length≤1000000)(hz:∀s∈xs,s.size≤1000000)(Q:IExit→(Nat→T)→Heap→Prop):∀(rest pre:List ByteArray) (i:Nat),xs=pre++rest→pre.length=i→
 (newS pre rest=true→∀(i:Int),Q (.exit 2) (ofL [(3,.list (qau xs)),(5,.int .i64 i),(35,.bool false)]) (hpL hh))→
 (newS pre rest=false→Q .ret (ofL [(2,.bool false)]) (hpL hh))→
 WL Tryz.prog 65 qin (ofL [(3,.list (qau xs)),(5,.int .i64 i)]) (hpL hh) Q:=by
 intro rest
 induction rest with
 | nil=>
  intro pre i he hn hQ0 hQ1
  have hd:decide ((i:Int)<((qau xs).length:Int))=false:=by simp[qaf,he,hn]
  have fX:=@hd
  refine qaa qin.eq_1 ?_
  refine wR0 700 [3,5,35] fX ?_
  refine wF @hd ?_
  refine wX ?_
  refine wN ?_
  exact hQ0 rfl _
 | cons s rest ih=>
  intro pre i he hn hQ0 hQ1
  have hlt:(i:Int)<((qau xs).length:Int):=by simp[qaf,he];omega
  have hlb:i≤1000000:=by rw[he] at hl;simp at hl;omega
  have hd:decide ((i:Int)<((qau xs).length:Int))=true:=decide_eq_true hlt
  have hg:(qau xs).getD (i:Int).toNat .undef=.str s:=by rw[Int.toNat_natCast,he,←hn];exact qc3 _ s _
  have hw:IntKind.wrap .i64 ((i:Int)+1)=(i:Int)+1:=wrap64 (by omega) (by omega)
  have hsz:s.size≤1000000:=hz s (by rw[he];simp)
  have fX:=(cJ3 @hd @hg @hw)
  refine qaa qin.eq_1 ?_
  refine wR0 700 [3,5,35] fX ?_
  refine wT @hd ?_
  refine wRn 800 [3,5,50] fX ?_
  refine rC fX ?_
  refine⟨_,qrN s hsz,rN fX ?_⟩
  refine rCi fX ?_
  refine⟨_,fun hw=>qlb s,rE fX ?_⟩
  refine wS cJ0 (fun hc800=>?_) (fun hc800=>?_)
  ·skip
   refine wR0 900 [2] fX ?_
   refine wE ?_
   refine wN ?_
   exact hQ1 (by simp at hc800;rw[newS];cases h1:qho s<;>simp_all)
  ·skip
   refine wR0 1000 [3,5,6] fX ?_
   refine wL ?_
   refine qpv xs hl hh pre s rest i he hn _ pre [] 0 rfl rfl ?_ ?_
   ·intro h2 k
    refine wN ?_
    refine wR0 1500 [3,5] fX ?_
    refine wN ?_
    have e:newS pre (s::rest)=newS (pre++[s]) rest:=(by rw[←qsm] at h2;simp at hc800;rw[newS,h2];simp[hc800])
    rw[e] at hQ0 hQ1
    exact ih (pre++[s]) (i+1) (by simp[he]) (by simp;omega) hQ0 hQ1
   ·intro h2
    refine wN ?_
    exact hQ1 (by rw[←qsm] at h2;rw[newS,h2];simp)
theorem len0 {l:List ByteArray}(h:qau l=[]):l.length=0:=by rw[←qaf,h];rfl
set_option maxHeartbeats 4000000 in
theorem qpw (m:Md)(hm:m.fit)(hne:m.states≠[]):TP Tryz.prog 111 [qas m] (.bool (qgY m)):=by
 have h1:=hm.states
 have h2:=hm.places
 have h3:=hm.letters
 have h4:=hm.rules
 have hmc:∀D,clL D (mdC m)=true:=fun D=>by simp
 have hmo:=qce m
 have hnl:(qa7 m).length≤1000000:=by simp[qa7];omega
 have hnz:∀s∈qa7 m,s.size≤1000000:=by
  intro s hs
  rcases List.mem_append.1 hs with hs | hs
  ·exact hm.names s hs
  ·obtain⟨r,hr,rfl⟩:=List.mem_map.1 hs
   exact (hm.rule r hr).name
 have he0:qau m.states≠[]:=by simpa [qau] using hne
 have hpos:0<m.states.length:=List.length_pos_iff.2 hne
 have hcs:((qau m.places=[]∧m.places.length=0)∨(qau m.places≠[]∧0<m.places.length))∧((qau m.letters=[]∧m.letters.length=0)∨(qau m.letters≠[]∧0<m.letters.length)):=by
  constructor
  ·cases m.places<;>simp[qau]
  ·cases m.letters<;>simp[qau]
 have hs1:=qdo m.states
 have hs2:=qdo m.places
 have hs3:=qdo m.letters
 have hb1:m.states.length≤1000000000:=by omega
 refine qah fn111 (by simp) ?_
 unfold i111
 simp only[argL,qas,mdC]
 refine wR0 0 [1] cJ0 ?_
 refine wN ?_
 rcases hcs with⟨⟨hp,hp0⟩ | ⟨hp,hp0⟩,⟨hq,hq0⟩ | ⟨hq,hq0⟩⟩
 ·skip
  refine wR0 100 [1,3] (cJ8 @he0 @hp @hq @hs1 @hs2 @hs3 @qbA (cJ6 @qaf @List.length_append.{0} @ne_eq.{1} @not_false_eq_true @true_and @and_true)) ?_
  refine wR0 200 [1,3,4] cJ0 ?_
  refine wL ?_
  refine qe4 m h4 _ _ (fun D=>by simp[clL]) (fun D=>by simp[clL]) _ m.rules [] 0 _ _ (m.states++m.places++m.letters) (by simp only[List.length_append];try omega) (by simp[qcj,hp,hq]) rfl rfl (by simp;omega) ?_
  ·intro i
   refine wN ?_
   refine wR0 600 [3,5] cJ0 ?_
   simp only[thn]
   refine qfP (l':=[(3,.list (qau (qa7 m))),(5,.int .i64 0)]) (hl':=[(0,_),(102,.dead)]) [0] (.cons (qfp (ty:=9) (qa7 m) rfl rfl rfl rfl) (.cons (.same rfl) .nil)) (.keep rfl (.liveA (by simp[clL,T.cl]) rfl) (.dead rfl (fun h=>by cases h) .nil)) ?_
   refine wL ?_
   refine qe5 _ (qa7 m) hnl hnz _ (qa7 m) [] 0 rfl rfl ?_ ?_
   ·intro h i
    refine wN ?_
    refine wR0 1600 [2] cJ0 ?_
    refine wP ?_
    exact qab h.symm
   ·intro h
    refine wN ?_
    exact⟨by simp,_,rfl,by exact qab h.symm⟩
 ·skip
  refine wR0 100 [1,3] (cJ8 @he0 @hp @hq @hs1 @hs2 @hs3 @qbA (cJ6 @qaf @List.length_append.{0} @ne_eq.{1} @not_false_eq_true @true_and @and_true)) ?_
  refine wR0 200 [1,3,4] cJ0 ?_
  refine wL ?_
  refine qe4 m h4 _ _ (fun D=>by simp[clL]) (fun D=>by simp) _ m.rules [] 0 _ _ (m.states++m.places++m.letters) (by simp only[List.length_append];try omega) (by simp[qcj,hp]) rfl rfl (by simp;omega) ?_
  ·intro i
   refine wN ?_
   refine wR0 600 [3,5] cJ0 ?_
   simp only[thn]
   refine qfP (l':=[(3,.list (qau (qa7 m))),(5,.int .i64 0)]) (hl':=[(0,_),(102,.dead)]) [0] (.cons (qfp (ty:=9) (qa7 m) rfl rfl rfl rfl) (.cons (.same rfl) .nil)) (.keep rfl (.liveA (by simp[clL,T.cl]) rfl) (.dead rfl (fun h=>by cases h) .nil)) ?_
   refine wL ?_
   refine qe5 _ (qa7 m) hnl hnz _ (qa7 m) [] 0 rfl rfl ?_ ?_
   ·intro h i
    refine wN ?_
    refine wR0 1600 [2] cJ0 ?_
    refine wP ?_
    exact qab h.symm
   ·intro h
    refine wN ?_
    exact⟨by simp,_,rfl,by exact qab h.symm⟩
 ·skip
  refine wR0 100 [1,3] (cJ8 @he0 @hp @hq @hs1 @hs2 @hs3 @qbA (cJ6 @qaf @List.length_append.{0} @ne_eq.{1} @not_false_eq_true @true_and @and_true)) ?_
  refine wR0 200 [1,3,4] cJ0 ?_
  refine wL ?_
  refine qe4 m h4 _ _ (fun D=>by simp) (fun D=>by simp[clL]) _ m.rules [] 0 _ _ (m.states++m.places++m.letters) (by simp only[List.length_append];try omega) (by simp[qcj,hq]) rfl rfl (by simp;omega) ?_
  ·intro i
   refine wN ?_
   refine wR0 600 [3,5] cJ0 ?_
   simp only[thn]
   refine qfP (l':=[(3,.list (qau (qa7 m))),(5,.int .i64 0)]) (hl':=[(0,_),(102,.dead)]) [0] (.cons (qfp (ty:=9) (qa7 m) rfl rfl rfl rfl) (.cons (.same rfl) .nil)) (.keep rfl (.liveA (by simp[clL,T.cl]) rfl) (.dead rfl (fun h=>by cases h) .nil)) ?_
   refine wL ?_
   refine qe5 _ (qa7 m) hnl hnz _ (qa7 m) [] 0 rfl rfl ?_ ?_
   ·intro h i
    refine wN ?_
    refine wR0 1600 [2] cJ0 ?_
    refine wP ?_
    exact qab h.symm
   ·intro h
    refine wN ?_
    exact⟨by simp,_,rfl,by exact qab h.symm⟩
 ·skip
  refine wR0 100 [1,3] (cJ8 @he0 @hp @hq @hs1 @hs2 @hs3 @qbA (cJ6 @qaf @List.length_append.{0} @ne_eq.{1} @not_false_eq_true @true_and @and_true)) ?_
  refine wR0 200 [1,3,4] cJ0 ?_
  refine wL ?_
  refine qe4 m h4 _ _ (fun D=>by simp) (fun D=>by simp) _ m.rules [] 0 _ _ (m.states++m.places++m.letters) (by simp only[List.length_append];try omega) (by simp[qcj]) rfl rfl (by simp;omega) ?_
  ·intro i
   refine wN ?_
   refine wR0 600 [3,5] cJ0 ?_
   simp only[thn]
   refine qfP (l':=[(3,.list (qau (qa7 m))),(5,.int .i64 0)]) (hl':=[(0,_),(102,.dead)]) [0] (.cons (qfp (ty:=9) (qa7 m) rfl rfl rfl rfl) (.cons (.same rfl) .nil)) (.keep rfl (.liveA (by simp[clL,T.cl]) rfl) (.dead rfl (fun h=>by cases h) .nil)) ?_
   refine wL ?_
   refine qe5 _ (qa7 m) hnl hnz _ (qa7 m) [] 0 rfl rfl ?_ ?_
   ·intro h i
    refine wN ?_
    refine wR0 1600 [2] cJ0 ?_
    refine wP ?_
    exact qab h.symm
   ·intro h
    refine wN ?_
    exact⟨by simp,_,rfl,by exact qab h.symm⟩
def qkY (k:Int)(r:Rl):Rl:=
 if k=1 then ⟨r.name,r.from_,r.to_,r.need,r.give,r.move,0,0,0,[],[],[],[],0⟩
 else if k=2∨k=3 then ⟨r.name,r.from_,r.to_,[],[],[],r.chan,r.act,r.lett,[],[],[],[],0⟩
 else if k=4 then ⟨r.name,r.from_,r.to_,[],[],[],0,0,0,r.path,r.next,[],[],0⟩
 else if k=5 then ⟨r.name,r.from_,r.to_,[],[],[],0,0,0,[],[],r.takes,r.makes,0⟩
 else ⟨r.name,r.from_,r.to_,r.need,r.give,[],0,0,0,[],[],[],[],r.second⟩
def qtK (m:Md)(r:Rl):Bool:=qcO m r&&((r.second == -1) || btw r.second 0 ((m.states.length:Int) - 1))&&(decide (r.from_≥0) || (r.second == -1&&r.need.all fun x=>x==0))
def qm4 (m:Md)(r:Rl):Bool:=
 if m.kind=1 then qcO m r&&qfI m r else if m.kind=2∨m.kind=3 then actsM m r else if m.kind=4 then pathsM m r else if m.kind=5 then agesM m r else qtK m r
def qja (m:Md)(r:Rl):Bool:=btw r.to_ 0 ((m.states.length:Int) - 1)&&(btw r.from_ 0 ((m.states.length:Int) - 1) || (m.kind==6&&r.from_ == -1))
def qbU (m:Md)(r:Rl):Bool:=qja m r&&(qm4 m r&&qnC r (qkY m.kind r))
theorem qm1:qbz []=[]:=rfl
set_option maxHeartbeats 4000000 in
theorem qrB (m:Md)(r:Rl)(hm:m.states.length≤1000)(hb:qja m r=false):TP Tryz.prog 85 [qas m,qa0 r] (.bool false):=by
 have hsl:=qaf m.states
 have hi1:=qfW r.to_ (m.states.length:Int) (by omega)
 have hi2:=qfW r.from_ (m.states.length:Int) (by omega)
 unfold qja at hb
 rcases h1:btw r.to_ 0 ((m.states.length:Int) - 1) with _ | _
 ·rw[h1] at hi1
  have fX:=(cJ3 @hsl @Bool.not_false @Bool.true_or)
  refine qah fn85 (by simp) ?_
  unfold i85
  simp only[argL,qas,mdC,qa0,rlC]
  refine wR0 0 [2,3] fX ?_
  refine wR0 100 [2,3,5] fX ?_
  refine wRn 200 [2,3,5,32] fX ?_
  refine rC fX ?_
  refine⟨_,hi1,rE fX ?_⟩
  refine wT fX ?_
  refine wR0 300 [4] fX ?_
  refine wP ?_
  exact qab rfl
 ·rw[h1] at hi1 hb
  rcases h2:btw r.from_ 0 ((m.states.length:Int) - 1) with _ | _
  ·rw[h2] at hi2 hb
   rcases h3:(m.kind != 6) with _ | _
   ·have h4:(r.from_ != -1)=true:=by
     have h3':(m.kind==6)=true:=by simpa using h3
     rw[h3'] at hb
     simpa using hb
    have fX:=(cJ6 @hsl @Bool.not_false @Bool.not_true @h3 @h4 @Bool.false_or)
    refine qah fn85 (by simp) ?_
    unfold i85
    simp only[argL,qas,mdC,qa0,rlC]
    refine wR0 0 [2,3] fX ?_
    refine wR0 100 [2,3,5] fX ?_
    refine wRn 200 [2,3,5,32] fX ?_
    refine rC fX ?_
    refine⟨_,hi1,rN fX ?_⟩
    refine rC fX ?_
    refine⟨_,hi2,rE fX ?_⟩
    refine wT fX ?_
    refine wR0 300 [4] fX ?_
    refine wP ?_
    exact qab rfl
   ·have fX:=(cJ5 @hsl @Bool.not_false @Bool.not_true @h3 @Bool.false_or)
    refine qah fn85 (by simp) ?_
    unfold i85
    simp only[argL,qas,mdC,qa0,rlC]
    refine wR0 0 [2,3] fX ?_
    refine wR0 100 [2,3,5] fX ?_
    refine wRn 200 [2,3,5,32] fX ?_
    refine rC fX ?_
    refine⟨_,hi1,rN fX ?_⟩
    refine rC fX ?_
    refine⟨_,hi2,rE fX ?_⟩
    refine wT fX ?_
    refine wR0 300 [4] fX ?_
    refine wP ?_
    exact qab rfl
  ·rw[h2] at hb
   simp at hb
set_option maxHeartbeats 4000000 in
theorem qng (m:Md)(r:Rl)(hm:m.fit)(hr:r.fit)(ha:0≤m.age∧m.age≤1000)(hk:m.kind=1)(h1:btw r.to_ 0 ((m.states.length:Int) - 1)=true)(h2:btw r.from_ 0 ((m.states.length:Int) - 1)=true):TP Tryz.prog 85 [qas m,qa0 r] (.bool (qm4 m r&&qnC r (qkY m.kind r))):=by
 have kb1:(m.kind==1)=true:=by rw[hk];rfl
 have kb2:(m.kind==2)=false:=by rw[hk];rfl
 have kb3:(m.kind==3)=false:=by rw[hk];rfl
 have kb4:(m.kind==4)=false:=by rw[hk];rfl
 have kb5:(m.kind==5)=false:=by rw[hk];rfl
 have kb6:(m.kind==6)=false:=by rw[hk];rfl
 have kn1:(m.kind != 1)=!true:=by rw[hk];rfl
 have kn3:(m.kind != 3)=!false:=by rw[hk];rfl
 have kn6:(m.kind != 6)=!false:=by rw[hk];rfl
 have hsl:=qaf m.states
 have hms:=hm.states
 have hi1:=qfW r.to_ (m.states.length:Int) (by omega)
 have hi2:=qfW r.from_ (m.states.length:Int) (by omega)
 rw[h1] at hi1
 rw[h2] at hi2
 have hf:qm4 m r=(qcO m r&&qfI m r):=by rw[qm4,hk];rfl
 have hso:=qpI r (qkY 1 r) hr
 rw[show qkY 1 r=⟨r.name,r.from_,r.to_,r.need,r.give,r.move,0,0,0,[],[],[],[],0⟩ from rfl] at hso
 have hon:qkY m.kind r=⟨r.name,r.from_,r.to_,r.need,r.give,r.move,0,0,0,[],[],[],[],0⟩:=by rw[hk];rfl
 have fX:=(cJ8 @hsl @kb1 @kb2 @kb3 @kb4 @kb5 @kb6 (cJ3 @kn6 @Bool.not_true @Bool.not_false))
 refine qah fn85 (by simp) ?_
 unfold i85
 simp only[argL,qas,mdC,qa0,rlC]
 refine wR0 0 [2,3] fX ?_
 refine wR0 100 [2,3,5] fX ?_
 refine wRn 200 [2,3,5,32] fX ?_
 refine rC fX ?_
 refine⟨_,hi1,rN fX ?_⟩
 refine rC fX ?_
 refine⟨_,hi2,rE fX ?_⟩
 refine wF fX ?_
 refine wR0 400 [2,3,5,6] fX ?_
 refine wR0 500 [2,3,5,6] fX ?_
 refine wR0 600 [2,3,5,6,41] fX ?_
 refine wR0 700 [2,3,5,6,41,80] fX ?_
 refine wT fX ?_
 refine wR0 800 [2,3,6] fX ?_
 refine wRn 900 [3,6,7] fX ?_
 refine rC fX ?_
 refine⟨_,qmS m r hr,rN fX ?_⟩
 refine rCi fX ?_
 refine⟨_,fun hw=>qq8 m r hm.places hr,rE fX ?_⟩
 refine wRn 2200 [4] fX ?_
 refine rCi fX ?_
 refine⟨_,fun hw=>TP.ofNil hso (by simp only[qa0,rlC,qaw,qm1];(first | exact fF | exact fZt)),rE fX ?_⟩
 refine wP ?_
 exact qab (by rw[hf,hon])
theorem qo4 (m:Md)(r:Rl)(hm:m.fit)(hr:r.fit)(ha:0≤m.age∧m.age≤1000)(hk:btw m.kind 1 6=true):TP Tryz.prog 85 [qas m,qa0 r] (.bool (qbU m r)):=by
 unfold qbU
 rcases hb:qja m r with _ | _
 ·have h:=qrB m r hm.states hb
  simpa using h
 ·unfold qja at hb
  simp only[Bool.and_eq_true,Bool.or_eq_true] at hb
  obtain⟨h1,h2⟩:=hb
  rw[Bool.true_and]
  rcases hf:btw r.from_ 0 ((m.states.length:Int) - 1) with _ | _
  ·rw[hf] at h2
   simp at h2
   exact absurd hm.kd (by unfold kindOk;omega)
  ·rcases qd4 hk with h | h | h | h | h | h
   ·exact qng m r hm hr ha h h1 hf
   ·exact absurd hm.kd (by unfold kindOk;omega)
   ·exact absurd hm.kd (by unfold kindOk;omega)
   ·exact absurd hm.kd (by unfold kindOk;omega)
   ·exact absurd hm.kd (by unfold kindOk;omega)
   ·exact absurd hm.kd (by unfold kindOk;omega)
theorem qn2 (m:Md)(r:Rl)(h:TP Tryz.prog 85 [qas m,qa0 r] (.bool (qbU m r))):TP Tryz.prog 84 [qa0 r,.ptr (mdC m)] (.bool (!qbU m r)):=by
 refine qah fn84 (by simp) ?_
 unfold i84
 simp only[argL,qa0,rlC,mdC]
 refine wR0 0 [1,2] cJ0 ?_
 refine wRn 100 [3] cJ0 ?_
 refine rC cJ0 ?_
 refine⟨_,h,rE cJ0 ?_⟩
 refine wP ?_
 exact qab rfl
theorem qoV (n:Int):(qaM n).fit:=by simp[qaM,Ty.fit,qeq]
theorem qko {t0 t:Ty}(h0:t0.fit)(h:t.fit):∀j,qeq (qdC t0 t j)
 | 0=>by simp[qdC,qeq,h0]
 | j+1=>by
  have ih:=qko h0 h j
  have:∀(l:List Ty),qeq l→qeq (l++[t]):=fun l=>by
   induction l with
   | nil=>intro _;simp[qeq,h]
   | cons x l ih=>intro hl;simp only[qeq] at hl;simp only[List.cons_append,qeq];exact⟨hl.1,ih hl.2⟩
  exact this _ ih
theorem qfA (m:Md)(hp:m.places.length≤1000)(hr:m.ranks.length≤1000000):(qbb m).fit:=by
 unfold qbb qaS
 (repeat' split)
 ·unfold qdJ
  split<;>simp[qbf,Ty.fit,qeq,qaM]
 ·simp[qbf,Ty.fit,qeq,qaM]
 ·have hpf:(qdy m).fit:=by
   unfold qdy
   (repeat' split)<;>simp[qbf,Ty.fit,qeq,qaM,hr]
  have:=qko (qoV m.states.length) hpf m.places.length
  simp only[Ty.fit]
  exact⟨by simp,by rw[qhm];omega,this⟩
def qbg (m:Md):Bool:=if m.kind=6 then (m.start.n==0)&&((m.start.kids.length:Int)==0) else qdl (qbb m) m.start
theorem qn0 (m:Md)(hm:m.sane):TP Tryz.prog 86 [qas m] (.bool (qbg m)):=by
 have ht:=qr3 m hm
 have hv:=qpc (qbb m) m.start (qfA m hm.fit.places hm.fit.ranks) hm.fit.start
 rw[qoy] at hv
 rcases hty:qbb m with⟨tk,ts,trs,tps⟩
 rw[hty] at ht hv
 simp only[qax] at ht hv
 refine qah fn86 (by simp) ?_
 unfold i86
 simp only[argL,qas,mdC]
 refine wR0 0 [1] cJ0 ?_
 refine wR0 100 [1,5] cJ0 ?_
 refine wS cJ0 (fun hc100=>?_) (fun hc100=>?_)
 ·skip
  refine wR0 200 [2] cJ0 ?_
  refine wP ?_
  exact qab (by simp at hc100;rw[qbg,if_pos hc100,qam])
 ·skip
  refine wRn 300 [2] cJ0 ?_
  refine rC cJ0 ?_
  refine⟨_,ht,rN cJ0 ?_⟩
  refine rC cJ0 ?_
  refine⟨_,hv,rE cJ0 ?_⟩
  refine wP ?_
  exact qab (by simp at hc100;rw[qbg,if_neg hc100,hty])
def qaV (m:Md):Int:=
 if btw m.kind 1 6=false then 15 else if qaR m=false then 1 else if qcT m=false then 14 else if qgY m=false then 13 else if (m.rules.any fun r=>!qbU m r)=true then 16 else if qbg m=false then 17 else 0
theorem qhh {m:Md}(h:qaR m=true):m.states≠[]:=by
 simp only[qaR,Bool.and_eq_true,btw,decide_eq_true_eq] at h
 intro e
 rw[e] at h
 simp at h
theorem qfv {m:Md}(hm:m.fit)(hk:btw m.kind 1 6=true)(h:qaR m=true)(hr:qcT m=true):m.sane:=by
 refine⟨hm,hk,fun h4=>?_,?_,fun h3 hn=>?_⟩
 ·have hl:limC m.kind=[0,0,1,6,1,2,0,0]:=by rw[h4];rfl
  simp[qaR,btw,hl] at h
  omega
 ·rcases qd4 hk with k | k | k | k | k | k<;>(simp[qaR,btw,k,limC] at h;omega)
 ·have hl:limC m.kind=[1,2,1,6,0,0,0,0]:=by rw[h3];rfl
  simp[qaR,btw,hl] at h
  rw[qcT,if_neg (by simp[h3]),hn] at hr
  simp at hr
  omega
set_option maxHeartbeats 4000000 in
theorem qoZ (m:Md)(hm:m.fit):TP Tryz.prog 51 [qas m] (.int .i64 (qaV m)):=by
 have hst:=qrP m
 have hrt:=qpo m hm
 have hmc:∀D,clL D (mdC m)=true:=fun D=>by simp
 rcases hk:btw m.kind 1 6 with _ | _
 ·have hb:=qbm m.kind 1 6
  rw[hk] at hb
  have fX:=@Bool.not_false
  refine qah fn51 (by simp) ?_
  unfold i51
  simp only[argL,qas,mdC]
  refine wR0 0 [1] fX ?_
  refine wRn 100 [1,3] fX ?_
  refine rC fX ?_
  refine⟨_,hb,rE fX ?_⟩
  refine wT fX ?_
  refine wR0 200 [2] fX ?_
  refine wP ?_
  exact qaE (by rw[qaV,if_pos hk])
 ·have hb:=qbm m.kind 1 6
  rw[hk] at hb
  rcases hs:qaR m with _ | _
  ·rw[hs] at hst
   have fX:=(cJ2 @Bool.not_false @Bool.not_true)
   refine qah fn51 (by simp) ?_
   unfold i51
   simp only[argL,qas,mdC]
   refine wR0 0 [1] fX ?_
   refine wRn 100 [1,3] fX ?_
   refine rC fX ?_
   refine⟨_,hb,rE fX ?_⟩
   refine wF fX ?_
   refine wRn 300 [1,8] fX ?_
   refine rC fX ?_
   refine⟨_,hst,rE fX ?_⟩
   refine wT fX ?_
   refine wR0 400 [2] fX ?_
   refine wP ?_
   exact qaE (by rw[qaV,if_neg (by simp[hk]),if_pos hs])
  ·rw[hs] at hst
   rcases hr:qcT m with _ | _
   ·rw[hr] at hrt
    have fX:=(cJ2 @Bool.not_false @Bool.not_true)
    refine qah fn51 (by simp) ?_
    unfold i51
    simp only[argL,qas,mdC]
    refine wR0 0 [1] fX ?_
    refine wRn 100 [1,3] fX ?_
    refine rC fX ?_
    refine⟨_,hb,rE fX ?_⟩
    refine wF fX ?_
    refine wRn 300 [1,8] fX ?_
    refine rC fX ?_
    refine⟨_,hst,rE fX ?_⟩
    refine wF fX ?_
    refine wRn 500 [1,12] fX ?_
    refine rC fX ?_
    refine⟨_,hrt,rE fX ?_⟩
    refine wT fX ?_
    refine wR0 600 [2] fX ?_
    refine wP ?_
    exact qaE (by rw[qaV,if_neg (by simp[hk]),if_neg (by simp[hs]),if_pos hr])
   ·rw[hr] at hrt
    have hsn:=qfv hm hk hs hr
    have hcf:=qn1 84 [.ptr (mdC m)] (by simp[clL,T.cl]) (fun r=>!qbU m r) m.rules (by have:=hm.rules;omega) (fun r hr=>qn2 m r (qo4 m r hm (hm.rule r hr) hsn.age hk))
    have hch:qaV m=if qgY m=false then 13 else if (m.rules.any fun r=>!qbU m r)=true then 16 else if qbg m=false then 17 else 0:=by rw[qaV,if_neg (by simp[hk]),if_neg (by simp[hs]),if_neg (by simp[hr])]
    simp only[mdC] at hcf
    have fX:=(cJ2 @Bool.not_false @Bool.not_true)
    refine qah fn51 (by simp) ?_
    unfold i51
    simp only[argL,qas,mdC]
    refine wR0 0 [1] fX ?_
    refine wRn 100 [1,3] fX ?_
    refine rC fX ?_
    refine⟨_,hb,rE fX ?_⟩
    refine wF fX ?_
    refine wRn 300 [1,8] fX ?_
    refine rC fX ?_
    refine⟨_,hst,rE fX ?_⟩
    refine wF fX ?_
    refine wRn 500 [1,12] fX ?_
    refine rC fX ?_
    refine⟨_,hrt,rE fX ?_⟩
    refine wF fX ?_
    refine wRn 700 [1,16] fX ?_
    refine rC fX ?_
    refine⟨_,qrb m hm (qhh hs),rE fX ?_⟩
    refine wS cJ0 (fun hc700=>?_) (fun hc700=>?_)
    ·skip
     refine wR0 800 [2] fX ?_
     refine wP ?_
     exact qaE (by simp at hc700;rw[hch,if_pos hc700])
    ·skip
     refine wRn 900 [1,20] fX ?_
     refine rL [(0,.live ⟨_,mdC m⟩)] fX ?_
     refine⟨_,_,hcf,fZy,rfl,rE fX ?_⟩
     refine wS cJ0 (fun hc900=>?_) (fun hc900=>?_)
     ·skip
      refine wR0 1000 [2] fX ?_
      refine wP ?_
      exact qaE (by simp only[Bool.not_eq_false'] at hc700;rw[hch,if_neg (by simp[hc700]),if_pos hc900])
     ·skip
      refine wRn 1100 [25] fX ?_
      refine rC fX ?_
      refine⟨_,qn0 m hsn,rE fX ?_⟩
      refine wS cJ0 (fun hc1100=>?_) (fun hc1100=>?_)
      ·skip
       refine wR0 1200 [2] fX ?_
       refine wP ?_
       exact qaE (by simp only[Bool.not_eq_false'] at hc700;simp only[Bool.not_eq_true'] at hc1100;rw[hch,if_neg (by simp[hc700]),if_neg (by simp only[hc900];simp),if_pos hc1100])
      ·skip
       refine wR0 1300 [2] fX ?_
       refine wP ?_
       exact qaE (by simp only[Bool.not_eq_false'] at hc700 hc1100;rw[hch,if_neg (by simp[hc700]),if_neg (by simp only[hc900];simp),if_neg (by simp[hc1100])])
end
section
open Go.RowKit
theorem qmT {m:Md}(hm:m.fit)(h:qaV m=0):m.sane:=by
 unfold qaV at h
 split at h
 ·cases h
 ·rename_i hk
  split at h
  ·cases h
  ·rename_i hs
   split at h
   ·cases h
   ·rename_i hr
    exact qfv hm (by simpa using hk) (by simpa using hs) (by simpa using hr)
theorem typedM_fit' {m:Md}(hm:m.fit):(qbb m).fit:=qfA m hm.places hm.ranks
def qfc (m:Md)(c:V):Bool:=qaV m==0&&qdl (qbb m) c
end
end Go.Proofs.YtoeeppojakbciaaGreat
