/- Contracts of functions of the program, for all arguments that they name. -/
import Derived.Test.YtoeeppojakbciaaGreatK16
namespace Go.Proofs.YtoeeppojakbciaaGreat
set_option linter.unusedVariables false
section
open Go.RowKit
set_option maxHeartbeats 2000000
theorem qqP (n:Nat)(hn:0<n)(hl:n≤1000000):TC Tryz.prog 171 [.nil,.int .i64 n] (hpL []) (.sl 508 0 0 0 0) (hpL [(505,.dead),(508,.live ⟨9,[]⟩)]):=by
 have h1:decide ((n:Int)<0)=false:=decide_eq_false (by omega)
 have h2:decide ((n:Int) > 0)=true:=decide_eq_true (by omega)
 have hw:IntKind.wrap .i64 ((n:Int) - 0)=(n:Int):=by rw[Int.sub_zero];exact wrap64 (by omega) (by omega)
 have hw2:IntKind.wrap .i64 ((0:Int) - 0)=0:=rfl
 have fX:=(cJ4 @h1 @h2 @hw @hw2)
 refine qfe fn171 (by simp) ?_
 unfold i171
 simp only[argL]
 refine wR0 0 [0,1] fX ?_
 refine wR0 100 [0,1,6] fX ?_
 refine wF @h1 ?_
 refine wR0 300 [0,1] fX ?_
 refine wR0 400 [0,1,16] fX ?_
 refine wT @h2 ?_
 refine wR 500 [0] ?_
 refine rN1 fX ?_
 refine rN1 fX ?_
 refine rN1 fX ?_
 refine rN1 fX ?_
 refine rN1 fX ?_
 refine rN1 fX ?_
 refine rN1 fX ?_
 refine rN1 fX ?_
 refine rCut fX ?_
 refine rE fX ?_
 refine wR0 600 [4] fX ?_
 refine wE ?_
 refine wN ?_
 first | exact⟨by simp,rfl,rfl⟩ | exact⟨by simp,rfl,trivial⟩
theorem qs2 (n:Nat)(hn:0<n)(hl:n≤1000000):TC Tryz.prog 171 [.nil,.int .i64 n] (hpL []) (.sl 508 0 0 0 0) (hpL [(508,.live ⟨9,[]⟩)]):=
 qdU [508] (qqP n hn hl) (by simp) (by simp[T.cl,inL]) (by simp[qan,inL,Slot.cl,clL])
def llsS (xss:List (List ByteArray)):List T:=xss.map fun l=>.list (qau l)
theorem qmb (pre:List (List ByteArray))(l:List ByteArray)(rest:List (List ByteArray)):(llsS (pre++l::rest)).getD pre.length .undef=.list (qau l):=by simp[llsS,List.getD_eq_getElem?_getD]
theorem qfX (xss:List (List ByteArray)):(llsS xss).length=xss.length:=by simp[llsS]
theorem qsJ (xss:List (List ByteArray))(hs:xss.flatten.length≤1000000)(hl:xss.length≤1000000)(Q:IExit→(Nat→T)→Heap→Prop):∀(rest pre:List (List ByteArray)) (i:Nat),xss=pre++rest→pre.length=i→
 (∀i:Int,Q (.exit 0) (ofL [(0,.list (llsS xss)),(3,.int .i64 xss.flatten.length),(9,.list (llsS xss)),(10,.int .i64 (llsS xss).length),(11,.int .i64 i),(12,.bool false)]) (hpL []))→
 WL Tryz.prog 36 qit (ofL [(0,.list (llsS xss)),(3,.int .i64 pre.flatten.length),(9,.list (llsS xss)),(10,.int .i64 (llsS xss).length),(11,.int .i64 i)]) (hpL []) Q:=by
 intro rest
 induction rest with
 | nil=>
  intro pre i he hn hQ
  have hd:decide ((i:Int)<((llsS xss).length:Int))=false:=by simp[qfX,he,hn]
  simp only[List.append_nil] at he
  subst he
  have fX:=@hd
  refine qaa qit.eq_1 ?_
  refine wR0 300 [0,3,9,10,11,12] fX ?_
  refine wF @hd ?_
  refine wX ?_
  refine wN ?_
  exact hQ _
 | cons k rest ih=>
  intro pre i he hn hQ
  have hlt:(i:Int)<((llsS xss).length:Int):=by simp[qfX,he];omega
  have hlb:i≤1000000:=by rw[he] at hl;simp at hl;omega
  have hd:decide ((i:Int)<((llsS xss).length:Int))=true:=decide_eq_true hlt
  have hg:(llsS xss).getD (i:Int).toNat .undef=.list (qau k):=by rw[Int.toNat_natCast,he,←hn];exact qmb _ k _
  have hw:IntKind.wrap .i64 ((i:Int)+1)=(i:Int)+1:=wrap64 (by omega) (by omega)
  have hsum:(pre++[k]).flatten.length≤1000000:=by rw[he] at hs;simp at hs ⊢;omega
  have hw2:IntKind.wrap .i64 ((pre.flatten.length:Int)+((qau k).length:Int))=((pre++[k]).flatten.length:Int):=by rw[qaf];simp at hsum ⊢;exact wrap64 (by omega) (by omega)
  have hd2:decide (((pre++[k]).flatten.length:Int)<0)=false:=decide_eq_false (by omega)
  have fX:=(cJ5 @hd @hg @hw @hw2 @hd2)
  refine qaa qit.eq_1 ?_
  refine wR0 300 [0,3,9,10,11,12] fX ?_
  refine wT @hd ?_
  refine wR0 400 [0,3,5,9,10,11] fX ?_
  refine wR0 500 [0,3,9,10,11] fX ?_
  refine wR0 600 [0,3,9,10,11,20] fX ?_
  refine wF @hd2 ?_
  refine wR0 800 [0,3,9,10,11] fX ?_
  refine wN ?_
  exact ih (pre++[k]) (i+1) (by simp[he]) (by simp;omega) hQ
theorem qsK (xss:List (List ByteArray))(hs:xss.flatten.length≤1000000)(hl:xss.length≤1000000)(Q:IExit→(Nat→T)→Heap→Prop):∀(rest pre:List (List ByteArray)) (i:Nat) (done:List ByteArray),xss=pre++rest→pre.length=i→pre.flatten=done→
 (∀(i:Int) (done:List ByteArray),done=xss.flatten→Q (.exit 2) (ofL [(6,.sl 508 (done.length) 0 0 done.length),(25,.list (llsS xss)),(26,.int .i64 (llsS xss).length),(27,.int .i64 i),(28,.bool false)]) (hpL [(508,.live ⟨9,qau done⟩)]))→
 WL Tryz.prog 36 qgJ (ofL [(6,.sl 508 (done.length) 0 0 done.length),(25,.list (llsS xss)),(26,.int .i64 (llsS xss).length),(27,.int .i64 i)]) (hpL [(508,.live ⟨9,qau done⟩)]) Q:=by
 intro rest
 induction rest with
 | nil=>
  intro pre i done he hn hdn hQ
  have hd:decide ((i:Int)<((llsS xss).length:Int))=false:=by simp[qfX,he,hn]
  simp only[List.append_nil] at he
  have fX:=@hd
  refine qaa qgJ.eq_1 ?_
  refine wR0 1100 [6,25,26,27,28] fX ?_
  refine wF @hd ?_
  refine wX ?_
  refine wN ?_
  exact hQ _ done (by rw[he,hdn])
 | cons k rest ih=>
  intro pre i done he hn hdn hQ
  have hlt:(i:Int)<((llsS xss).length:Int):=by simp[qfX,he];omega
  have hlb:i≤1000000:=by rw[he] at hl;simp at hl;omega
  have hd:decide ((i:Int)<((llsS xss).length:Int))=true:=decide_eq_true hlt
  have hg:(llsS xss).getD (i:Int).toNat .undef=.list (qau k):=by rw[Int.toNat_natCast,he,←hn];exact qmb _ k _
  have hw:IntKind.wrap .i64 ((i:Int)+1)=(i:Int)+1:=wrap64 (by omega) (by omega)
  have hsum:done.length+k.length≤1000000:=by rw[he] at hs;rw[←hdn];simp at hs ⊢;omega
  cases k with
  | nil=>
   have hg':(llsS xss).getD (i:Int).toNat .undef=.list []:=hg
   have fX:=(cJ3 @hd @hg' @hw)
   refine qaa qgJ.eq_1 ?_
   refine wR0 1100 [6,25,26,27,28] fX ?_
   refine wT @hd ?_
   refine wR0 1200 [6,8,25,26,27] fX ?_
   refine wR0 1300 [6,25,26,27] fX ?_
   refine wR0 1400 [6,25,26,27] fX ?_
   refine wN ?_
   exact ih (pre++[[]]) (i+1) done (by simp[he]) (by simp;omega) (by simp[hdn]) hQ
  | cons y k=>
   have hne:qau (y::k)≠[]:=by simp[qau]
   have hszd:=qdo (y::k)
   have hlen:(qau done).length=done.length:=qaf _
   have hkl:=qaf (y::k)
   have hkf:flat (qau (y::k))=qau (y::k):=qbA _
   have hkfl:(qau (y::k)).length=(y::k).length:=qaf _
   have hsum':done.length+(y::k).length≤1000000000:=by omega
   have hpos:0<(y::k).length:=by simp
   generalize hyk:y::k=yk at*
   have fX:=(cJ8 @hd @hg @hw @hne @hszd @hlen @hkl (cJ6 @hkf @hkfl @ne_eq.{1} @not_false_eq_true @true_and @and_true))
   refine qaa qgJ.eq_1 ?_
   refine wR0 1100 [6,25,26,27,28] fX ?_
   refine wT @hd ?_
   refine wR0 1200 [6,8,25,26,27] fX ?_
   refine wR0 1300 [6,25,26,27] fX ?_
   refine wR0 1400 [6,25,26,27] fX ?_
   refine wN ?_
   have:=ih (pre++[yk]) (i+1) (done++yk) (by simp[he]) (by simp;omega) (by simp[hdn]) hQ
   rw[qcj] at this
   simp only[List.length_append] at this
   try simp only[Nat.add_mul] at this
   exact this
theorem qsL (xss:List (List ByteArray))(hs:xss.flatten.length≤1000000)(hl:xss.length≤1000000)(hne:xss.flatten≠[]):TC Tryz.prog 135 [.list (llsS xss)] (hpL []) (.sl 508 ((qau xss.flatten).length) 0 0 xss.flatten.length) (hpL [(508,.live ⟨9,qau xss.flatten⟩)]):=by
 have hpos:0<xss.flatten.length:=by cases h:xss.flatten with | nil=>exact absurd h hne | cons _ _=>simp
 have hg:=qs2 xss.flatten.length hpos hs
 refine qfe fn135 (by simp) ?_
 unfold i135
 simp only[argL]
 refine wR0 0 [0] cJ0 ?_
 refine wR0 100 [0,3] cJ0 ?_
 refine wR0 200 [0,3,9,10,11] cJ0 ?_
 refine wL ?_
 refine qsJ xss hs hl _ xss [] 0 rfl rfl ?_
 ·intro i
  refine wN ?_
  refine wRn 900 [0,6] cJ0 ?_
  refine rU [] [(508,.live ⟨9,[]⟩)] cJ0 ?_
  refine⟨_,hg,rE cJ0 ?_⟩
  refine wR0 1000 [6,25,26,27] cJ0 ?_
  refine wL ?_
  refine qsK xss hs hl _ xss [] 0 [] rfl rfl rfl ?_
  ·intro i dn hdn
   refine wN ?_
   refine wR0 1500 [2] cJ0 ?_
   refine wE ?_
   refine wN ?_
   exact⟨by simp,by subst hdn;simp only[qaf];rfl,by subst hdn;rfl⟩
def qa7 (m:Md):List ByteArray:=m.states++m.places++m.letters++m.rules.map (·.name)
def newS (seen:List ByteArray):List ByteArray→Bool
 | []=>true
 | s::l=>(qho s&&!kwS s&&!inS s seen)&&newS (seen++[s]) l
def qgY (m:Md):Bool:=newS [] (qa7 m)
theorem qq9 (m:Md)(hl:m.rules.length≤1000)(mm:Slot)(Q:IExit→(Nat→T)→Heap→Prop):∀(rest pre:List Rl) (i:Nat) (done:List ByteArray),m.rules=pre++rest→pre.length=i→done.length≤10000+i→
 (∀(i:Int),Q (.exit 0) (ofL [(3,.mp 100),(4,.sl 508 (done++rest.map (·.name)).length 0 0 (done++rest.map (·.name)).length),(19,.list (qaB m.rules)),(20,.int .i64 (qaB m.rules).length),(21,.int .i64 i),(22,.bool false)]) (hpL [(0,.live ⟨33,mdC m⟩),(100,.map []),(206,.dead),(508,.live ⟨9,qau (done++rest.map (·.name))⟩)]))→
 WL Tryz.prog 52 ql5 (ofL [(3,.mp 100),(4,.sl 508 done.length 0 0 done.length),(19,.list (qaB m.rules)),(20,.int .i64 (qaB m.rules).length),(21,.int .i64 i)]) (hpL [(0,.live ⟨33,mdC m⟩),(100,.map []),(206,.dead),(508,.live ⟨9,qau done⟩)]) Q:=by
 have hmc:∀D,clL D (mdC m)=true:=fun D=>by simp
 intro rest
 induction rest with
 | nil=>
  intro pre i done he hn hdn hQ
  have hd:decide ((i:Int)<((qaB m.rules).length:Int))=false:=by simp[qaD,he,hn]
  simp only[List.map_nil,List.append_nil] at hQ
  have fX:=@hd
  refine qaa ql5.eq_1 ?_
  refine wR0 400 [3,4,19,20,21,22] fX ?_
  refine wF @hd ?_
  refine wX ?_
  refine wN ?_
  exact hQ _
 | cons k rest ih=>
  intro pre i done he hn hdn hQ
  have hlt:(i:Int)<((qaB m.rules).length:Int):=by simp[qaD,he];omega
  have hlb:i≤1000:=by rw[he] at hl;simp at hl;omega
  have hd:decide ((i:Int)<((qaB m.rules).length:Int))=true:=decide_eq_true hlt
  have hg:(qaB m.rules).getD (i:Int).toNat .undef=.agg (rlC k):=by rw[Int.toNat_natCast,he,←hn];exact qc2 _ k _
  have hw:IntKind.wrap .i64 ((i:Int)+1)=(i:Int)+1:=wrap64 (by omega) (by omega)
  have hlen:(qau done).length=done.length:=qaf _
  have hdn':done.length≤20000:=by omega
  simp only[rlC] at hg
  have fX:=(cJ5 @hd @hg @hw @hlen @qee)
  refine qaa ql5.eq_1 ?_
  refine W_gc ?_
  refine wR0 400 [3,4,19,20,21,22] fX ?_
  refine wT @hd ?_
  refine wR0 500 [3,4,6,19,20,21] fX ?_
  refine wR0 600 [3,4,19,20,21] fX ?_
  refine wR0 700 [3,4,19,20,21] fX ?_
  refine wN ?_
  refine qaP [0,100,206,508] (by simp[inL]) (by simp[inL,T.cl]) (by simp[qan,inL,Slot.cl,T.cl,clL,qap,hmc]) ?_
  have:=ih (pre++[k]) (i+1) (done++[k.name]) (by simp[he]) (by simp;omega) (by simp;omega) (by simpa using hQ)
  simpa [qan,inL,qau] using this
def mapE (l:List ByteArray):List (T×T):=l.map fun s=>(.str s,.bool true)
theorem findE (s:ByteArray):∀l,qjo (.str s) (mapE l)=some (if inS s l=true then some (.bool true) else none)
 | []=>rfl
 | k::l=>by
  have ih:=findE s l
  simp only[mapE,List.map_cons,qjo,qnc,inS,List.any_cons] at ih ⊢
  rw[beq_toListBytes]
  by_cases hk:(s.toList==k.toList)=true
  ·simp only[hk,Bool.true_or,if_true]
  ·rw[Bool.not_eq_true] at hk
   simp only[hk,Bool.false_or];exact ih
theorem msetE (s:ByteArray):∀l,inS s l=false→qiP (.str s) (.bool true) (mapE l)=mapE (l++[s])
 | [],_=>rfl
 | k::l,h=>by
  simp only[inS,List.any_cons,Bool.or_eq_false_iff] at h
  have ih:=msetE s l h.2
  simp only[mapE,List.map_cons,List.cons_append,qiP,qnc] at ih ⊢
  rw[beq_toListBytes,h.1]
  simp only[ih]
theorem qra (s0:Slot)(xs:List ByteArray)(hl:xs.length≤1000000)(hz:∀s∈xs,s.size≤1000000)(Q:IExit→(Nat→T)→Heap→Prop):∀(rest pre:List ByteArray) (i:Nat),xs=pre++rest→pre.length=i→
 (newS pre rest=true→∀(i:Int) l,Q (.exit 2) (ofL [(3,.mp 100),(31,.list (qau xs)),(32,.int .i64 (qau xs).length),(33,.int .i64 i),(34,.bool false)]) (hpL l))→
 (newS pre rest=false→∀l,Q .ret (ofL [(2,.bool false)]) (hpL l))→
 WL Tryz.prog 52 qjG (ofL [(3,.mp 100),(31,.list (qau xs)),(32,.int .i64 (qau xs).length),(33,.int .i64 i)]) (hpL [(0,s0),(100,.map (mapE pre)),(206,.dead),(508,.dead)]) Q:=by
 intro rest
 induction rest with
 | nil=>
  intro pre i he hn hQ0 hQ1
  have hd:decide ((i:Int)<((qau xs).length:Int))=false:=by simp[qaf,he,hn]
  have fX:=@hd
  refine qaa qjG.eq_1 ?_
  refine wR0 900 [3,31,32,33,34] fX ?_
  refine wF @hd ?_
  refine wX ?_
  refine wN ?_
  exact hQ0 rfl _ _
 | cons s rest ih=>
  intro pre i he hn hQ0 hQ1
  have hlt:(i:Int)<((qau xs).length:Int):=by simp[qaf,he];omega
  have hlb:i≤1000000:=by rw[he] at hl;simp at hl;omega
  have hd:decide ((i:Int)<((qau xs).length:Int))=true:=decide_eq_true hlt
  have hg:(qau xs).getD (i:Int).toNat .undef=.str s:=by rw[Int.toNat_natCast,he,←hn];exact qc3 _ s _
  have hw:IntKind.wrap .i64 ((i:Int)+1)=(i:Int)+1:=wrap64 (by omega) (by omega)
  have hsz:s.size≤1000000:=hz s (by rw[he];simp)
  have hf:=findE s pre
  have hk:isKind true (.str s)=true:=rfl
  rcases hin:inS s pre with _ | _
  ·rw[hin] at hf
   have hm:=msetE s pre hin
   simp only[Bool.false_eq_true,if_false] at hf
   have fX:=(cJ8 @hd @hg @hw @hf @hk @hm @Req.run.eq_1 (cJ4 @Req.run.eq_8 @Req.run.eq_9 @Req.run.eq_10 @Req.run.eq_11))
   refine qaa qjG.eq_1 ?_
   refine wR0 900 [3,31,32,33,34] fX ?_
   refine wT @hd ?_
   refine wR0 1000 [3,8,31,32,33] fX ?_
   refine wRn 1100 [3,8,31,32,33,48] fX ?_
   refine rC fX ?_
   refine⟨_,qqg s hsz,rN fX ?_⟩
   refine rCi fX ?_
   refine⟨_,fun hw=>qhJ s,rE fX ?_⟩
   refine wS cJ0 (fun hc1100=>?_) (fun hc1100=>?_)
   ·skip
    refine wR0 1200 [2] fX ?_
    refine wE ?_
    refine wN ?_
    exact hQ1 (by simp at hc1100;rw[newS,hin];cases h1:qho s<;>simp_all) _
   ·skip
    refine wR0 1300 [3,31,32,33] fX ?_
    refine wR0 1400 [3,31,32,33] fX ?_
    refine wN ?_
    have e:newS pre (s::rest)=newS (pre++[s]) rest:=(by simp at hc1100;rw[newS,hin];simp[hc1100])
    rw[e] at hQ0 hQ1
    exact ih (pre++[s]) (i+1) (by simp[he]) (by simp;omega) hQ0 hQ1
  ·rw[hin] at hf
   simp only[if_true] at hf
   have e:newS pre (s::rest)=false:=by rw[newS,hin];simp
   have fX:=(cJ8 @hd @hg @hw @hf @hk @Req.run.eq_1 @Req.run.eq_8 (cJ3 @Req.run.eq_9 @Req.run.eq_10 @Req.run.eq_11))
   refine qaa qjG.eq_1 ?_
   refine wR0 900 [3,31,32,33,34] fX ?_
   refine wT @hd ?_
   refine wR0 1000 [3,8,31,32,33] fX ?_
   refine wRn 1100 [3,8,31,32,33,48] fX ?_
   refine rC fX ?_
   refine⟨_,qqg s hsz,rN fX ?_⟩
   refine rCi fX ?_
   refine⟨_,fun hw=>qhJ s,rE fX ?_⟩
   refine wT @Bool.or_true ?_
   refine wR0 1200 [2] fX ?_
   refine wE ?_
   refine wN ?_
   exact hQ1 e _
set_option maxHeartbeats 2000000 in
theorem qrb (m:Md)(hm:m.fit)(hne:m.states≠[]):TP Tryz.prog 82 [qas m] (.bool (qgY m)):=by
 have h1:=hm.states
 have h2:=hm.places
 have h3:=hm.letters
 have h4:=hm.rules
 have hf:[m.states,m.places,m.letters].flatten=m.states++m.places++m.letters:=by simp
 have hc:=qsL [m.states,m.places,m.letters] (by rw[hf];simp;omega) (by simp) (by rw[hf];simp[hne])
 rw[hf,qaf] at hc
 simp only[llsS,List.map_cons,List.map_nil] at hc
 have hmc:∀D,clL D (mdC m)=true:=fun D=>by simp
 have hmo:=qce m
 have hnl:(qa7 m).length≤1000000:=by simp[qa7];omega
 have hnz:∀s∈qa7 m,s.size≤1000000:=by
  intro s hs
  rcases List.mem_append.1 hs with hs | hs
  ·exact hm.names s hs
  ·obtain⟨r,hr,rfl⟩:=List.mem_map.1 hs
   exact (hm.rule r hr).name
 have fX:=@repl3
 refine qah fn82 (by simp) ?_
 unfold i82
 simp only[argL,qas,mdC]
 refine wR0 0 [1] fX ?_
 refine wR0 100 [1,3] fX ?_
 refine wRn 200 [1,3,4] fX ?_
 refine rGc [(206,.live ⟨_,_⟩)] [(508,.live ⟨9,qau (m.states++m.places++m.letters)⟩)] fX ?_
 refine⟨_,_,hc,fZt,rE fX ?_⟩
 refine wR0 300 [3,4,19,20,21] fX ?_
 refine wL ?_
 refine qq9 m h4 .free _ m.rules [] 0 (m.states++m.places++m.letters) rfl rfl (by simp;omega) ?_
 ·intro i
  refine wN ?_
  refine wR0 800 [3,31,32,33] fX ?_
  simp only[thn]
  have hnm:m.states++m.places++m.letters++m.rules.map (·.name)=qa7 m:=rfl
  rw[hnm]
  refine qfP (l':=[(3,.mp 100),(31,.list (qau (qa7 m))),(32,.int .i64 (qa7 m).length),(33,.int .i64 0)]) (hl':=[(0,.live ⟨33,mdC m⟩),(100,.map []),(206,.dead),(508,.dead)]) [0,100] (.cons (.same rfl) (.cons (qfp (ty:=9) (qa7 m) rfl rfl rfl rfl) (.cons (.same rfl) (.cons (.same rfl) .nil)))) (.keep rfl (.liveS (hmc _) hmo) (.keep rfl (.map (fun e he=>by cases he)) (.dead rfl (fun h=>by cases h) (.dead rfl (fun h=>by cases h) .nil)))) ?_
  rw[show ((qa7 m).length:Int)=((qau (qa7 m)).length:Int) from by rw[qaf]]
  refine wL ?_
  refine qra _ (qa7 m) hnl hnz _ (qa7 m) [] 0 rfl rfl ?_ ?_
  ·intro h i l
   refine wN ?_
   refine wR0 1500 [2] fX ?_
   refine wP ?_
   exact qab h.symm
  ·intro h l
   refine wN ?_
   exact⟨by simp,_,rfl,by exact qab h.symm⟩
end
end Go.Proofs.YtoeeppojakbciaaGreat
