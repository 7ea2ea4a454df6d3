/- Contracts of functions of the program, for all arguments that they name. -/
import Derived.Test.YtpplncjaihgimaaGreatK16
namespace Go.Proofs.YtpplncjaihgimaaGreat
set_option linter.unusedVariables false
section
open Go.RowKit
set_option maxHeartbeats 2000000
theorem qsr (n:Nat)(hn:0<n)(hl:n≤1000000):TC Tryz.prog 175 [.nil,.int .i64 n] (hpL []) (.sl 508 0 0 0 0) (hpL [(505,.dead),(508,.live ⟨9,[]⟩)]):=by
 have h1:decide ((n:Int)<0)=false:=decide_eq_false (by omega)
 have h2:decide ((n:Int) > 0)=true:=decide_eq_true (by omega)
 have hw:IntKind.wrap .i64 ((n:Int) - 0)=(n:Int):=by rw[Int.sub_zero];exact wrap64 (by omega) (by omega)
 have hw2:IntKind.wrap .i64 ((0:Int) - 0)=0:=rfl
 have fX:=(cJ4 @h1 @h2 @hw @hw2)
 refine qcj fn175 (by simp) ?_
 unfold i175
 simp only[argL]
 refine wR0 0 [0,1] fX ?_
 refine wR0 100 [0,1,6] fX ?_
 refine wF @h1 ?_
 refine wR0 300 [0,1] fX ?_
 refine wR0 400 [0,1,16] fX ?_
 refine wT @h2 ?_
 refine wR 500 [0] ?_
 refine rN1 fX ?_
 refine rN1 fX ?_
 refine rN1 fX ?_
 refine rN1 fX ?_
 refine rN1 fX ?_
 refine rN1 fX ?_
 refine rN1 fX ?_
 refine rN1 fX ?_
 refine rCut fX ?_
 refine rE fX ?_
 refine wR0 600 [4] fX ?_
 refine wE ?_
 refine wN ?_
 first | exact⟨by simp,rfl,rfl⟩ | exact⟨by simp,rfl,trivial⟩
theorem quC (n:Nat)(hn:0<n)(hl:n≤1000000):TC Tryz.prog 175 [.nil,.int .i64 n] (hpL []) (.sl 508 0 0 0 0) (hpL [(508,.live ⟨9,[]⟩)]):=
 qdY [508] (qsr n hn hl) (by simp) (by simp[T.cl,inL]) (by simp[qam,inL,Slot.cl,clL])
def llsS (xss:List (List ByteArray)):List T:=xss.map fun l=>.list (qas l)
theorem qnt (pre:List (List ByteArray))(l:List ByteArray)(rest:List (List ByteArray)):(llsS (pre++l::rest)).getD pre.length .undef=.list (qas l):=by simp[llsS,List.getD_eq_getElem?_getD]
theorem qgO (xss:List (List ByteArray)):(llsS xss).length=xss.length:=by simp[llsS]
theorem quj (xss:List (List ByteArray))(hs:xss.flatten.length≤1000000)(hl:xss.length≤1000000)(Q:IExit→(Nat→T)→Heap→Prop):∀(rest pre:List (List ByteArray)) (i:Nat),xss=pre++rest→pre.length=i→
 (∀i:Int,Q (.exit 0) (ofL [(0,.list (llsS xss)),(3,.int .i64 xss.flatten.length),(9,.list (llsS xss)),(10,.int .i64 (llsS xss).length),(11,.int .i64 i),(12,.bool false)]) (hpL []))→
 WL Tryz.prog 36 qjk (ofL [(0,.list (llsS xss)),(3,.int .i64 pre.flatten.length),(9,.list (llsS xss)),(10,.int .i64 (llsS xss).length),(11,.int .i64 i)]) (hpL []) Q:=by
 intro rest
 induction rest with
 | nil=>
  intro pre i he hn hQ
  have hd:decide ((i:Int)<((llsS xss).length:Int))=false:=by simp[qgO,he,hn]
  simp only[List.append_nil] at he
  subst he
  have fX:=@hd
  refine qaa qjk.eq_1 ?_
  refine wR0 300 [0,3,9,10,11,12] fX ?_
  refine wF @hd ?_
  refine wX ?_
  refine wN ?_
  exact hQ _
 | cons k rest ih=>
  intro pre i he hn hQ
  have hlt:(i:Int)<((llsS xss).length:Int):=by simp[qgO,he];omega
  have hlb:i≤1000000:=by rw[he] at hl;simp at hl;omega
  have hd:decide ((i:Int)<((llsS xss).length:Int))=true:=decide_eq_true hlt
  have hg:(llsS xss).getD (i:Int).toNat .undef=.list (qas k):=by rw[Int.toNat_natCast,he,←hn];exact qnt _ k _
  have hw:IntKind.wrap .i64 ((i:Int)+1)=(i:Int)+1:=wrap64 (by omega) (by omega)
  have hsum:(pre++[k]).flatten.length≤1000000:=by rw[he] at hs;simp at hs ⊢;omega
  have hw2:IntKind.wrap .i64 ((pre.flatten.length:Int)+((qas k).length:Int))=((pre++[k]).flatten.length:Int):=by rw[qaf];simp at hsum ⊢;exact wrap64 (by omega) (by omega)
  have hd2:decide (((pre++[k]).flatten.length:Int)<0)=false:=decide_eq_false (by omega)
  have fX:=(cJ5 @hd @hg @hw @hw2 @hd2)
  refine qaa qjk.eq_1 ?_
  refine wR0 300 [0,3,9,10,11,12] fX ?_
  refine wT @hd ?_
  refine wR0 400 [0,3,5,9,10,11] fX ?_
  refine wR0 500 [0,3,9,10,11] fX ?_
  refine wR0 600 [0,3,9,10,11,20] fX ?_
  refine wF @hd2 ?_
  refine wR0 800 [0,3,9,10,11] fX ?_
  refine wN ?_
  exact ih (pre++[k]) (i+1) (by simp[he]) (by simp;omega) hQ
theorem quk (xss:List (List ByteArray))(hs:xss.flatten.length≤1000000)(hl:xss.length≤1000000)(Q:IExit→(Nat→T)→Heap→Prop):∀(rest pre:List (List ByteArray)) (i:Nat) (done:List ByteArray),xss=pre++rest→pre.length=i→pre.flatten=done→
 (∀(i:Int) (done:List ByteArray),done=xss.flatten→Q (.exit 2) (ofL [(6,.sl 508 (done.length) 0 0 done.length),(25,.list (llsS xss)),(26,.int .i64 (llsS xss).length),(27,.int .i64 i),(28,.bool false)]) (hpL [(508,.live ⟨9,qas done⟩)]))→
 WL Tryz.prog 36 qhy (ofL [(6,.sl 508 (done.length) 0 0 done.length),(25,.list (llsS xss)),(26,.int .i64 (llsS xss).length),(27,.int .i64 i)]) (hpL [(508,.live ⟨9,qas done⟩)]) Q:=by
 intro rest
 induction rest with
 | nil=>
  intro pre i done he hn hdn hQ
  have hd:decide ((i:Int)<((llsS xss).length:Int))=false:=by simp[qgO,he,hn]
  simp only[List.append_nil] at he
  have fX:=@hd
  refine qaa qhy.eq_1 ?_
  refine wR0 1100 [6,25,26,27,28] fX ?_
  refine wF @hd ?_
  refine wX ?_
  refine wN ?_
  exact hQ _ done (by rw[he,hdn])
 | cons k rest ih=>
  intro pre i done he hn hdn hQ
  have hlt:(i:Int)<((llsS xss).length:Int):=by simp[qgO,he];omega
  have hlb:i≤1000000:=by rw[he] at hl;simp at hl;omega
  have hd:decide ((i:Int)<((llsS xss).length:Int))=true:=decide_eq_true hlt
  have hg:(llsS xss).getD (i:Int).toNat .undef=.list (qas k):=by rw[Int.toNat_natCast,he,←hn];exact qnt _ k _
  have hw:IntKind.wrap .i64 ((i:Int)+1)=(i:Int)+1:=wrap64 (by omega) (by omega)
  have hsum:done.length+k.length≤1000000:=by rw[he] at hs;rw[←hdn];simp at hs ⊢;omega
  cases k with
  | nil=>
   have hg':(llsS xss).getD (i:Int).toNat .undef=.list []:=hg
   have fX:=(cJ3 @hd @hg' @hw)
   refine qaa qhy.eq_1 ?_
   refine wR0 1100 [6,25,26,27,28] fX ?_
   refine wT @hd ?_
   refine wR0 1200 [6,8,25,26,27] fX ?_
   refine wR0 1300 [6,25,26,27] fX ?_
   refine wR0 1400 [6,25,26,27] fX ?_
   refine wN ?_
   exact ih (pre++[[]]) (i+1) done (by simp[he]) (by simp;omega) (by simp[hdn]) hQ
  | cons y k=>
   have hne:qas (y::k)≠[]:=by simp[qas]
   have hszd:=qd1 (y::k)
   have hlen:(qas done).length=done.length:=qaf _
   have hkl:=qaf (y::k)
   have hkf:flat (qas (y::k))=qas (y::k):=qbZ _
   have hkfl:(qas (y::k)).length=(y::k).length:=qaf _
   have hsum':done.length+(y::k).length≤1000000000:=by omega
   have hpos:0<(y::k).length:=by simp
   generalize hyk:y::k=yk at*
   have fX:=(cJ8 @hd @hg @hw @hne @hszd @hlen @hkl (cJ6 @hkf @hkfl @ne_eq.{1} @not_false_eq_true @true_and @and_true))
   refine qaa qhy.eq_1 ?_
   refine wR0 1100 [6,25,26,27,28] fX ?_
   refine wT @hd ?_
   refine wR0 1200 [6,8,25,26,27] fX ?_
   refine wR0 1300 [6,25,26,27] fX ?_
   refine wR0 1400 [6,25,26,27] fX ?_
   refine wN ?_
   have:=ih (pre++[yk]) (i+1) (done++yk) (by simp[he]) (by simp;omega) (by simp[hdn]) hQ
   rw[qcC] at this
   simp only[List.length_append] at this
   try simp only[Nat.add_mul] at this
   exact this
theorem qul (xss:List (List ByteArray))(hs:xss.flatten.length≤1000000)(hl:xss.length≤1000000)(hne:xss.flatten≠[]):TC Tryz.prog 134 [.list (llsS xss)] (hpL []) (.sl 508 ((qas xss.flatten).length) 0 0 xss.flatten.length) (hpL [(508,.live ⟨9,qas xss.flatten⟩)]):=by
 have hpos:0<xss.flatten.length:=by cases h:xss.flatten with | nil=>exact absurd h hne | cons _ _=>simp
 have hg:=quC xss.flatten.length hpos hs
 refine qcj fn134 (by simp) ?_
 unfold i134
 simp only[argL]
 refine wR0 0 [0] cJ0 ?_
 refine wR0 100 [0,3] cJ0 ?_
 refine wR0 200 [0,3,9,10,11] cJ0 ?_
 refine wL ?_
 refine quj xss hs hl _ xss [] 0 rfl rfl ?_
 ·intro i
  refine wN ?_
  refine wRn 900 [0,6] cJ0 ?_
  refine rU [] [(508,.live ⟨9,[]⟩)] cJ0 ?_
  refine⟨_,hg,rE cJ0 ?_⟩
  refine wR0 1000 [6,25,26,27] cJ0 ?_
  refine wL ?_
  refine quk xss hs hl _ xss [] 0 [] rfl rfl rfl ?_
  ·intro i dn hdn
   refine wN ?_
   refine wR0 1500 [2] cJ0 ?_
   refine wE ?_
   refine wN ?_
   exact⟨by simp,by subst hdn;simp only[qaf];rfl,by subst hdn;rfl⟩
def qbh (m:Md):List ByteArray:=m.states++m.places++m.letters++m.rules.map (·.name)
def newS (seen:List ByteArray):List ByteArray→Bool
 | []=>true
 | s::l=>(qfa s&&!kwS s&&!inS s seen)&&newS (seen++[s]) l
def qec (m:Md):Bool:=newS [] (qbh m)
theorem qsP (m:Md)(hl:m.rules.length≤1000)(mm:Slot)(Q:IExit→(Nat→T)→Heap→Prop):∀(rest pre:List Rl) (i:Nat) (done:List ByteArray),m.rules=pre++rest→pre.length=i→done.length≤10000+i→
 (∀(i:Int),Q (.exit 0) (ofL [(3,.mp 100),(4,.sl 508 (done++rest.map (·.name)).length 0 0 (done++rest.map (·.name)).length),(19,.list (qaN m.rules)),(20,.int .i64 (qaN m.rules).length),(21,.int .i64 i),(22,.bool false)]) (hpL [(0,.live ⟨34,mdC m⟩),(100,.map []),(206,.dead),(508,.live ⟨9,qas (done++rest.map (·.name))⟩)]))→
 WL Tryz.prog 52 qnj (ofL [(3,.mp 100),(4,.sl 508 done.length 0 0 done.length),(19,.list (qaN m.rules)),(20,.int .i64 (qaN m.rules).length),(21,.int .i64 i)]) (hpL [(0,.live ⟨34,mdC m⟩),(100,.map []),(206,.dead),(508,.live ⟨9,qas done⟩)]) Q:=by
 have hmc:∀D,clL D (mdC m)=true:=fun D=>by simp
 intro rest
 induction rest with
 | nil=>
  intro pre i done he hn hdn hQ
  have hd:decide ((i:Int)<((qaN m.rules).length:Int))=false:=by simp[qaB,he,hn]
  simp only[List.map_nil,List.append_nil] at hQ
  have fX:=@hd
  refine qaa qnj.eq_1 ?_
  refine wR0 400 [3,4,19,20,21,22] fX ?_
  refine wF @hd ?_
  refine wX ?_
  refine wN ?_
  exact hQ _
 | cons k rest ih=>
  intro pre i done he hn hdn hQ
  have hlt:(i:Int)<((qaN m.rules).length:Int):=by simp[qaB,he];omega
  have hlb:i≤1000:=by rw[he] at hl;simp at hl;omega
  have hd:decide ((i:Int)<((qaN m.rules).length:Int))=true:=decide_eq_true hlt
  have hg:(qaN m.rules).getD (i:Int).toNat .undef=.agg (rlC k):=by rw[Int.toNat_natCast,he,←hn];exact qeN _ k _
  have hw:IntKind.wrap .i64 ((i:Int)+1)=(i:Int)+1:=wrap64 (by omega) (by omega)
  have hlen:(qas done).length=done.length:=qaf _
  have hdn':done.length≤20000:=by omega
  simp only[rlC] at hg
  have fX:=(cJ5 @hd @hg @hw @hlen @qaI)
  refine qaa qnj.eq_1 ?_
  refine W_gc ?_
  refine wR0 400 [3,4,19,20,21,22] fX ?_
  refine wT @hd ?_
  refine wR0 500 [3,4,6,19,20,21] fX ?_
  refine wR0 600 [3,4,19,20,21] fX ?_
  refine wR0 700 [3,4,19,20,21] fX ?_
  refine wN ?_
  refine qaC [0,100,206,508] (by simp[inL]) (by simp[inL,T.cl]) (by simp[qam,inL,Slot.cl,T.cl,clL,qao,hmc]) ?_
  have:=ih (pre++[k]) (i+1) (done++[k.name]) (by simp[he]) (by simp;omega) (by simp;omega) (by simpa using hQ)
  simpa [qam,inL,qas] using this
def mapE (l:List ByteArray):List (T×T):=l.map fun s=>(.str s,.bool true)
theorem findE (s:ByteArray):∀l,qkq (.str s) (mapE l)=some (if inS s l=true then some (.bool true) else none)
 | []=>rfl
 | k::l=>by
  have ih:=findE s l
  simp only[mapE,List.map_cons,qkq,qoF,inS,List.any_cons] at ih ⊢
  rw[beq_toListBytes]
  by_cases hk:(s.toList==k.toList)=true
  ·simp only[hk,Bool.true_or,if_true]
  ·rw[Bool.not_eq_true] at hk
   simp only[hk,Bool.false_or];exact ih
theorem msetE (s:ByteArray):∀l,inS s l=false→qjG (.str s) (.bool true) (mapE l)=mapE (l++[s])
 | [],_=>rfl
 | k::l,h=>by
  simp only[inS,List.any_cons,Bool.or_eq_false_iff] at h
  have ih:=msetE s l h.2
  simp only[mapE,List.map_cons,List.cons_append,qjG,qoF] at ih ⊢
  rw[beq_toListBytes,h.1]
  simp only[ih]
theorem qsQ (s0:Slot)(xs:List ByteArray)(hl:xs.length≤1000000)(hz:∀s∈xs,s.size≤1000000)(Q:IExit→(Nat→T)→Heap→Prop):∀(rest pre:List ByteArray) (i:Nat),xs=pre++rest→pre.length=i→
 (newS pre rest=true→∀(i:Int) l,Q (.exit 2) (ofL [(3,.mp 100),(31,.list (qas xs)),(32,.int .i64 (qas xs).length),(33,.int .i64 i),(34,.bool false)]) (hpL l))→
 (newS pre rest=false→∀l,Q .ret (ofL [(2,.bool false)]) (hpL l))→
 WL Tryz.prog 52 qkE (ofL [(3,.mp 100),(31,.list (qas xs)),(32,.int .i64 (qas xs).length),(33,.int .i64 i)]) (hpL [(0,s0),(100,.map (mapE pre)),(206,.dead),(508,.dead)]) Q:=by
 intro rest
 induction rest with
 | nil=>
  intro pre i he hn hQ0 hQ1
  have hd:decide ((i:Int)<((qas xs).length:Int))=false:=by simp[qaf,he,hn]
  have fX:=@hd
  refine qaa qkE.eq_1 ?_
  refine wR0 900 [3,31,32,33,34] fX ?_
  refine wF @hd ?_
  refine wX ?_
  refine wN ?_
  exact hQ0 rfl _ _
 | cons s rest ih=>
  intro pre i he hn hQ0 hQ1
  have hlt:(i:Int)<((qas xs).length:Int):=by simp[qaf,he];omega
  have hlb:i≤1000000:=by rw[he] at hl;simp at hl;omega
  have hd:decide ((i:Int)<((qas xs).length:Int))=true:=decide_eq_true hlt
  have hg:(qas xs).getD (i:Int).toNat .undef=.str s:=by rw[Int.toNat_natCast,he,←hn];exact qdv _ s _
  have hw:IntKind.wrap .i64 ((i:Int)+1)=(i:Int)+1:=wrap64 (by omega) (by omega)
  have hsz:s.size≤1000000:=hz s (by rw[he];simp)
  have hf:=findE s pre
  have hk:isKind true (.str s)=true:=rfl
  rcases hin:inS s pre with _ | _
  ·rw[hin] at hf
   have hm:=msetE s pre hin
   simp only[Bool.false_eq_true,if_false] at hf
   have fX:=(cJ8 @hd @hg @hw @hf @hk @hm @Req.run.eq_1 (cJ4 @Req.run.eq_8 @Req.run.eq_9 @Req.run.eq_10 @Req.run.eq_11))
   refine qaa qkE.eq_1 ?_
   refine wR0 900 [3,31,32,33,34] fX ?_
   refine wT @hd ?_
   refine wR0 1000 [3,8,31,32,33] fX ?_
   refine wRn 1100 [3,8,31,32,33,48] fX ?_
   refine rC fX ?_
   refine⟨_,qrT s hsz,rN fX ?_⟩
   refine rCi fX ?_
   refine⟨_,fun hw=>qiD s,rE fX ?_⟩
   refine wS cJ0 (fun hc1100=>?_) (fun hc1100=>?_)
   ·skip
    refine wR0 1200 [2] fX ?_
    refine wE ?_
    refine wN ?_
    exact hQ1 (by simp at hc1100;rw[newS,hin];cases h1:qfa s<;>simp_all) _
   ·skip
    refine wR0 1300 [3,31,32,33] fX ?_
    refine wR0 1400 [3,31,32,33] fX ?_
    refine wN ?_
    have e:newS pre (s::rest)=newS (pre++[s]) rest:=(by simp at hc1100;rw[newS,hin];simp[hc1100])
    rw[e] at hQ0 hQ1
    exact ih (pre++[s]) (i+1) (by simp[he]) (by simp;omega) hQ0 hQ1
  ·rw[hin] at hf
   simp only[if_true] at hf
   have e:newS pre (s::rest)=false:=by rw[newS,hin];simp
   have fX:=(cJ8 @hd @hg @hw @hf @hk @Req.run.eq_1 @Req.run.eq_8 (cJ3 @Req.run.eq_9 @Req.run.eq_10 @Req.run.eq_11))
   refine qaa qkE.eq_1 ?_
   refine wR0 900 [3,31,32,33,34] fX ?_
   refine wT @hd ?_
   refine wR0 1000 [3,8,31,32,33] fX ?_
   refine wRn 1100 [3,8,31,32,33,48] fX ?_
   refine rC fX ?_
   refine⟨_,qrT s hsz,rN fX ?_⟩
   refine rCi fX ?_
   refine⟨_,fun hw=>qiD s,rE fX ?_⟩
   refine wT @Bool.or_true ?_
   refine wR0 1200 [2] fX ?_
   refine wE ?_
   refine wN ?_
   exact hQ1 e _
set_option maxHeartbeats 2000000 in
theorem qsR (m:Md)(hm:m.fit)(hne:m.states≠[]):TP Tryz.prog 89 [qax m] (.bool (qec m)):=by
 have h1:=hm.states
 have h2:=hm.places
 have h3:=hm.letters
 have h4:=hm.rules
 have hf:[m.states,m.places,m.letters].flatten=m.states++m.places++m.letters:=by simp
 have hc:=qul [m.states,m.places,m.letters] (by rw[hf];simp;omega) (by simp) (by rw[hf];simp[hne])
 rw[hf,qaf] at hc
 simp only[llsS,List.map_cons,List.map_nil] at hc
 have hmc:∀D,clL D (mdC m)=true:=fun D=>by simp
 have hmo:=qco m
 have hnl:(qbh m).length≤1000000:=by simp[qbh];omega
 have hnz:∀s∈qbh m,s.size≤1000000:=by
  intro s hs
  rcases List.mem_append.1 hs with hs | hs
  ·exact hm.names s hs
  ·obtain⟨r,hr,rfl⟩:=List.mem_map.1 hs
   exact (hm.rule r hr).name
 have fX:=@repl3
 refine qan fn89 (by simp) ?_
 unfold i89
 simp only[argL,qax,mdC]
 refine wR0 0 [1] fX ?_
 refine wR0 100 [1,3] fX ?_
 refine wRn 200 [1,3,4] fX ?_
 refine rGc [(206,.live ⟨_,_⟩)] [(508,.live ⟨9,qas (m.states++m.places++m.letters)⟩)] fX ?_
 refine⟨_,_,hc,fZt,rE fX ?_⟩
 refine wR0 300 [3,4,19,20,21] fX ?_
 refine wL ?_
 refine qsP m h4 .free _ m.rules [] 0 (m.states++m.places++m.letters) rfl rfl (by simp;omega) ?_
 ·intro i
  refine wN ?_
  refine wR0 800 [3,31,32,33] fX ?_
  simp only[thn]
  have hnm:m.states++m.places++m.letters++m.rules.map (·.name)=qbh m:=rfl
  rw[hnm]
  refine qbW (l':=[(3,.mp 100),(31,.list (qas (qbh m))),(32,.int .i64 (qbh m).length),(33,.int .i64 0)]) (hl':=[(0,.live ⟨34,mdC m⟩),(100,.map []),(206,.dead),(508,.dead)]) [0,100] (.cons (.same rfl) (.cons (qgh (ty:=9) (qbh m) rfl rfl rfl rfl) (.cons (.same rfl) (.cons (.same rfl) .nil)))) (.keep rfl (.liveS (hmc _) hmo) (.keep rfl (.map (fun e he=>by cases he)) (.dead rfl (fun h=>by cases h) (.dead rfl (fun h=>by cases h) .nil)))) ?_
  rw[show ((qbh m).length:Int)=((qas (qbh m)).length:Int) from by rw[qaf]]
  refine wL ?_
  refine qsQ _ (qbh m) hnl hnz _ (qbh m) [] 0 rfl rfl ?_ ?_
  ·intro h i l
   refine wN ?_
   refine wR0 1500 [2] fX ?_
   refine wP ?_
   exact qad h.symm
  ·intro h l
   refine wN ?_
   exact⟨by simp,_,rfl,by exact qad h.symm⟩
theorem qtY (s:ByteArray)(l:List ByteArray):inS s l=l.any fun k=>k.toList==s.toList:=by
 unfold inS
 congr 1
 funext k
 rw[Bool.eq_iff_iff,beq_iff_eq,beq_iff_eq];exact eq_comm
theorem qfX (m:Md)(hl:m.rules.length≤1000)(P1 P2:List T)(hP1:∀D,clL D P1=true)(hP2:∀D,clL D P2=true)(Q:IExit→(Nat→T)→Heap→Prop):∀(rest pre:List Rl) (i N:Nat) (C:List T) (done:List ByteArray),N=done.length→C=qas done→m.rules=pre++rest→pre.length=i→done.length≤10000+i→
 (∀(i:Int),Q (.exit 0) (ofL [(1,.ref 0 10 0),(3,.sl 102 (done++rest.map (·.name)).length 0 0 (done++rest.map (·.name)).length),(4,.int .i64 i),(20,.bool false)]) (hpL [(0,.live ⟨34,[.int .i64 m.kind,.list (qas m.states),.list P1,.list P2,.list (qab m.ranks),.int .i64 m.levels,.int .i64 m.age,.list (qaN m.rules),.int .i64 m.start.n,.list (qac m.start.kids)]⟩),(102,.live ⟨9,qas (done++rest.map (·.name))⟩)]))→
 WL Tryz.prog 65 qnl (ofL [(1,.ref 0 10 0),(3,.sl 102 N 0 0 N),(4,.int .i64 i)]) (hpL [(0,.live ⟨34,[.int .i64 m.kind,.list (qas m.states),.list P1,.list P2,.list (qab m.ranks),.int .i64 m.levels,.int .i64 m.age,.list (qaN m.rules),.int .i64 m.start.n,.list (qac m.start.kids)]⟩),(102,.live ⟨9,C⟩)]) Q:=by
 intro rest
 induction rest with
 | nil=>
  intro pre i N C done hN hC he hn hdn hQ
  subst hN hC
  have hd:decide ((i:Int)<((qaN m.rules).length:Int))=false:=by simp[qaB,he,hn]
  simp only[List.map_nil,List.append_nil] at hQ
  have fX:=@hd
  refine qaa qnl.eq_1 ?_
  refine wR0 300 [1,3,4,20] fX ?_
  refine wF @hd ?_
  refine wX ?_
  refine wN ?_
  exact hQ _
 | cons k rest ih=>
  intro pre i N C done hN hC he hn hdn hQ
  subst hN hC
  have hlt:(i:Int)<((qaN m.rules).length:Int):=by simp[qaB,he];omega
  have hlb:i≤1000:=by rw[he] at hl;simp at hl;omega
  have hd:decide ((i:Int)<((qaN m.rules).length:Int))=true:=decide_eq_true hlt
  have hg:(qaN m.rules).getD (i:Int).toNat .undef=.agg (rlC k):=by rw[Int.toNat_natCast,he,←hn];exact qeN _ k _
  have hw:IntKind.wrap .i64 ((i:Int)+1)=(i:Int)+1:=wrap64 (by omega) (by omega)
  have hlen:(qas done).length=done.length:=qaf _
  have hdn':done.length≤20000:=by omega
  simp only[rlC] at hg
  have fX:=(cJ5 @hd @hg @hw @hlen @qaI)
  refine qaa qnl.eq_1 ?_
  refine W_gc ?_
  refine wR0 300 [1,3,4,20] fX ?_
  refine wT @hd ?_
  refine wR0 400 [1,3,4] fX ?_
  refine wR0 500 [1,3,4] fX ?_
  refine wN ?_
  refine qaC [0,102] (by simp[inL]) (by simp[inL,T.cl]) (by simp[qam,inL,Slot.cl,T.cl,clL,qao,hP1,hP2]) ?_
  have:=ih (pre++[k]) (i+1) _ _ (done++[k.name]) rfl rfl (by simp[he]) (by simp;omega) (by simp;omega) (by simpa using hQ)
  simpa [qam,inL,qas] using this
theorem qq6 (xs:List ByteArray)(hl:xs.length≤1000000)(hh:List (Nat×Slot))(pre:List ByteArray)(s:ByteArray)(tl:List ByteArray)(i:Nat)(he:xs=pre++s::tl)(hi:pre.length=i)(Q:IExit→(Nat→T)→Heap→Prop):∀(q p1:List ByteArray) (k:Nat),pre=p1++q→p1.length=k→
 ((q.any fun k=>k.toList==s.toList)=false→∀(k:Int),Q (.exit 4) (ofL [(3,.list (qas xs)),(5,.int .i64 i),(6,.int .i64 k),(53,.bool false)]) (hpL hh))→
 ((q.any fun k=>k.toList==s.toList)=true→Q .ret (ofL [(2,.bool false)]) (hpL hh))→
 WL Tryz.prog 65 qnn (ofL [(3,.list (qas xs)),(5,.int .i64 i),(6,.int .i64 k)]) (hpL hh) Q:=by
 have hlti:(i:Int)<((qas xs).length:Int):=by simp[qaf,he];omega
 have hlb:i≤1000000:=by rw[he] at hl;simp at hl;omega
 have hgi:(qas xs).getD (i:Int).toNat .undef=.str s:=by rw[Int.toNat_natCast,he,←hi];exact qdv _ s _
 intro q
 induction q with
 | nil=>
  intro p1 k hp hk hQ0 hQ1
  have hki:k=i:=by rw[←hk,←hi,hp];simp
  subst hki
  have hd:decide ((k:Int)<(k:Int))=false:=by simp
  have fX:=@hd
  refine qaa qnn.eq_1 ?_
  refine wR0 1100 [3,5,6,53] fX ?_
  refine wF @hd ?_
  refine wX ?_
  refine wN ?_
  exact hQ0 rfl _
 | cons x q ih=>
  intro p1 k hp hk hQ0 hQ1
  have hki:k<i:=by rw[←hk,←hi,hp];simp
  have hltk:(k:Int)<((qas xs).length:Int):=by omega
  have hd:decide ((k:Int)<(i:Int))=true:=decide_eq_true (by omega)
  have hgk:(qas xs).getD (k:Int).toNat .undef=.str x:=by
   have h:=qdv p1 x (q++s::tl)
   rw[Int.toNat_natCast,he,hp,←hk];simpa using h
  have hw:IntKind.wrap .i64 ((k:Int)+1)=(k:Int)+1:=wrap64 (by omega) (by omega)
  have fX:=(cJ7 @hd @hgi @hgk @hw @binS.eq_1 @binS.eq_2 @binS.eq_3)
  refine qaa qnn.eq_1 ?_
  refine wR0 1100 [3,5,6,53] fX ?_
  refine wT @hd ?_
  refine wR0 1200 [3,5,6,64] fX ?_
  refine wS cJ0 (fun hc1200=>?_) (fun hc1200=>?_)
  ·skip
   refine wR0 1300 [2] fX ?_
   refine wE ?_
   refine wN ?_
   exact hQ1 (by rw[List.any_cons,hc1200,Bool.true_or])
  ·skip
   refine wR0 1400 [3,5,6] fX ?_
   refine wN ?_
   have e:((x::q).any fun k=>k.toList==s.toList)=(q.any fun k=>k.toList==s.toList):=(by rw[List.any_cons,hc1200,Bool.false_or])
   rw[e] at hQ0 hQ1
   exact ih (p1++[x]) (k+1) (by simp[hp]) (by simp;omega) hQ0 hQ1
theorem qfY (hh:List (Nat×Slot))(xs:List ByteArray)(hl:xs.length≤1000000)(hz:∀s∈xs,s.size≤1000000)(Q:IExit→(Nat→T)→Heap→Prop):∀(rest pre:List ByteArray) (i:Nat),xs=pre++rest→pre.length=i→
 (newS pre rest=true→∀(i:Int),Q (.exit 2) (ofL [(3,.list (qas xs)),(5,.int .i64 i),(35,.bool false)]) (hpL hh))→
 (newS pre rest=false→Q .ret (ofL [(2,.bool false)]) (hpL hh))→
 WL Tryz.prog 65 qnm (ofL [(3,.list (qas xs)),(5,.int .i64 i)]) (hpL hh) Q:=by
 intro rest
 induction rest with
 | nil=>
  intro pre i he hn hQ0 hQ1
  have hd:decide ((i:Int)<((qas xs).length:Int))=false:=by simp[qaf,he,hn]
  have fX:=@hd
  refine qaa qnm.eq_1 ?_
  refine wR0 700 [3,5,35] fX ?_
  refine wF @hd ?_
  refine wX ?_
  refine wN ?_
  exact hQ0 rfl _
 | cons s rest ih=>
  intro pre i he hn hQ0 hQ1
  have hlt:(i:Int)<((qas xs).length:Int):=by simp[qaf,he];omega
  have hlb:i≤1000000:=by rw[he] at hl;simp at hl;omega
  have hd:decide ((i:Int)<((qas xs).length:Int))=true:=decide_eq_true hlt
  have hg:(qas xs).getD (i:Int).toNat .undef=.str s:=by rw[Int.toNat_natCast,he,←hn];exact qdv _ s _
  have hw:IntKind.wrap .i64 ((i:Int)+1)=(i:Int)+1:=wrap64 (by omega) (by omega)
  have hsz:s.size≤1000000:=hz s (by rw[he];simp)
  have fX:=(cJ3 @hd @hg @hw)
  refine qaa qnm.eq_1 ?_
  refine wR0 700 [3,5,35] fX ?_
  refine wT @hd ?_
  refine wRn 800 [3,5,50] fX ?_
  refine rC fX ?_
  refine⟨_,qtf s hsz,rN fX ?_⟩
  refine rCi fX ?_
  refine⟨_,fun hw=>qmj s,rE fX ?_⟩
  refine wS cJ0 (fun hc800=>?_) (fun hc800=>?_)
  ·skip
   refine wR0 900 [2] fX ?_
   refine wE ?_
   refine wN ?_
   exact hQ1 (by simp at hc800;rw[newS];cases h1:qfa s<;>simp_all)
  ·skip
   refine wR0 1000 [3,5,6] fX ?_
   refine wL ?_
   refine qq6 xs hl hh pre s rest i he hn _ pre [] 0 rfl rfl ?_ ?_
   ·intro h2 k
    refine wN ?_
    refine wR0 1500 [3,5] fX ?_
    refine wN ?_
    have e:newS pre (s::rest)=newS (pre++[s]) rest:=(by rw[←qtY] at h2;simp at hc800;rw[newS,h2];simp[hc800])
    rw[e] at hQ0 hQ1
    exact ih (pre++[s]) (i+1) (by simp[he]) (by simp;omega) hQ0 hQ1
   ·intro h2
    refine wN ?_
    exact hQ1 (by rw[←qtY] at h2;rw[newS,h2];simp)
theorem len0 {l:List ByteArray}(h:qas l=[]):l.length=0:=by rw[←qaf,h];rfl
set_option maxHeartbeats 4000000 in
theorem qq7 (m:Md)(hm:m.fit)(hne:m.states≠[]):TP Tryz.prog 97 [qax m] (.bool (qec m)):=by
 have h1:=hm.states
 have h2:=hm.places
 have h3:=hm.letters
 have h4:=hm.rules
 have hmc:∀D,clL D (mdC m)=true:=fun D=>by simp
 have hmo:=qco m
 have hnl:(qbh m).length≤1000000:=by simp[qbh];omega
 have hnz:∀s∈qbh m,s.size≤1000000:=by
  intro s hs
  rcases List.mem_append.1 hs with hs | hs
  ·exact hm.names s hs
  ·obtain⟨r,hr,rfl⟩:=List.mem_map.1 hs
   exact (hm.rule r hr).name
 have he0:qas m.states≠[]:=by simpa [qas] using hne
 have hpos:0<m.states.length:=List.length_pos_iff.2 hne
 have hcs:((qas m.places=[]∧m.places.length=0)∨(qas m.places≠[]∧0<m.places.length))∧((qas m.letters=[]∧m.letters.length=0)∨(qas m.letters≠[]∧0<m.letters.length)):=by
  constructor
  ·cases m.places<;>simp[qas]
  ·cases m.letters<;>simp[qas]
 have hs1:=qd1 m.states
 have hs2:=qd1 m.places
 have hs3:=qd1 m.letters
 have hb1:m.states.length≤1000000000:=by omega
 refine qan fn97 (by simp) ?_
 unfold i97
 simp only[argL,qax,mdC]
 refine wR0 0 [1] cJ0 ?_
 refine wN ?_
 rcases hcs with⟨⟨hp,hp0⟩ | ⟨hp,hp0⟩,⟨hq,hq0⟩ | ⟨hq,hq0⟩⟩
 ·skip
  refine wR0 100 [1,3] (cJ8 @he0 @hp @hq @hs1 @hs2 @hs3 @qbZ (cJ6 @qaf @List.length_append.{0} @ne_eq.{1} @not_false_eq_true @true_and @and_true)) ?_
  refine wR0 200 [1,3,4] cJ0 ?_
  refine wL ?_
  refine qfX m h4 _ _ (fun D=>by simp[clL]) (fun D=>by simp[clL]) _ m.rules [] 0 _ _ (m.states++m.places++m.letters) (by simp only[List.length_append];try omega) (by simp[qcC,hp,hq]) rfl rfl (by simp;omega) ?_
  ·intro i
   refine wN ?_
   refine wR0 600 [3,5] cJ0 ?_
   simp only[thn]
   refine qbW (l':=[(3,.list (qas (qbh m))),(5,.int .i64 0)]) (hl':=[(0,_),(102,.dead)]) [0] (.cons (qgh (ty:=9) (qbh m) rfl rfl rfl rfl) (.cons (.same rfl) .nil)) (.keep rfl (.liveA (by simp[clL,T.cl]) rfl) (.dead rfl (fun h=>by cases h) .nil)) ?_
   refine wL ?_
   refine qfY _ (qbh m) hnl hnz _ (qbh m) [] 0 rfl rfl ?_ ?_
   ·intro h i
    refine wN ?_
    refine wR0 1600 [2] cJ0 ?_
    refine wP ?_
    exact qad h.symm
   ·intro h
    refine wN ?_
    exact⟨by simp,_,rfl,by exact qad h.symm⟩
 ·skip
  refine wR0 100 [1,3] (cJ8 @he0 @hp @hq @hs1 @hs2 @hs3 @qbZ (cJ6 @qaf @List.length_append.{0} @ne_eq.{1} @not_false_eq_true @true_and @and_true)) ?_
  refine wR0 200 [1,3,4] cJ0 ?_
  refine wL ?_
  refine qfX m h4 _ _ (fun D=>by simp[clL]) (fun D=>by simp) _ m.rules [] 0 _ _ (m.states++m.places++m.letters) (by simp only[List.length_append];try omega) (by simp[qcC,hp]) rfl rfl (by simp;omega) ?_
  ·intro i
   refine wN ?_
   refine wR0 600 [3,5] cJ0 ?_
   simp only[thn]
   refine qbW (l':=[(3,.list (qas (qbh m))),(5,.int .i64 0)]) (hl':=[(0,_),(102,.dead)]) [0] (.cons (qgh (ty:=9) (qbh m) rfl rfl rfl rfl) (.cons (.same rfl) .nil)) (.keep rfl (.liveA (by simp[clL,T.cl]) rfl) (.dead rfl (fun h=>by cases h) .nil)) ?_
   refine wL ?_
   refine qfY _ (qbh m) hnl hnz _ (qbh m) [] 0 rfl rfl ?_ ?_
   ·intro h i
    refine wN ?_
    refine wR0 1600 [2] cJ0 ?_
    refine wP ?_
    exact qad h.symm
   ·intro h
    refine wN ?_
    exact⟨by simp,_,rfl,by exact qad h.symm⟩
 ·skip
  refine wR0 100 [1,3] (cJ8 @he0 @hp @hq @hs1 @hs2 @hs3 @qbZ (cJ6 @qaf @List.length_append.{0} @ne_eq.{1} @not_false_eq_true @true_and @and_true)) ?_
  refine wR0 200 [1,3,4] cJ0 ?_
  refine wL ?_
  refine qfX m h4 _ _ (fun D=>by simp) (fun D=>by simp[clL]) _ m.rules [] 0 _ _ (m.states++m.places++m.letters) (by simp only[List.length_append];try omega) (by simp[qcC,hq]) rfl rfl (by simp;omega) ?_
  ·intro i
   refine wN ?_
   refine wR0 600 [3,5] cJ0 ?_
   simp only[thn]
   refine qbW (l':=[(3,.list (qas (qbh m))),(5,.int .i64 0)]) (hl':=[(0,_),(102,.dead)]) [0] (.cons (qgh (ty:=9) (qbh m) rfl rfl rfl rfl) (.cons (.same rfl) .nil)) (.keep rfl (.liveA (by simp[clL,T.cl]) rfl) (.dead rfl (fun h=>by cases h) .nil)) ?_
   refine wL ?_
   refine qfY _ (qbh m) hnl hnz _ (qbh m) [] 0 rfl rfl ?_ ?_
   ·intro h i
    refine wN ?_
    refine wR0 1600 [2] cJ0 ?_
    refine wP ?_
    exact qad h.symm
   ·intro h
    refine wN ?_
    exact⟨by simp,_,rfl,by exact qad h.symm⟩
 ·skip
  refine wR0 100 [1,3] (cJ8 @he0 @hp @hq @hs1 @hs2 @hs3 @qbZ (cJ6 @qaf @List.length_append.{0} @ne_eq.{1} @not_false_eq_true @true_and @and_true)) ?_
  refine wR0 200 [1,3,4] cJ0 ?_
  refine wL ?_
  refine qfX m h4 _ _ (fun D=>by simp) (fun D=>by simp) _ m.rules [] 0 _ _ (m.states++m.places++m.letters) (by simp only[List.length_append];try omega) (by simp[qcC]) rfl rfl (by simp;omega) ?_
  ·intro i
   refine wN ?_
   refine wR0 600 [3,5] cJ0 ?_
   simp only[thn]
   refine qbW (l':=[(3,.list (qas (qbh m))),(5,.int .i64 0)]) (hl':=[(0,_),(102,.dead)]) [0] (.cons (qgh (ty:=9) (qbh m) rfl rfl rfl rfl) (.cons (.same rfl) .nil)) (.keep rfl (.liveA (by simp[clL,T.cl]) rfl) (.dead rfl (fun h=>by cases h) .nil)) ?_
   refine wL ?_
   refine qfY _ (qbh m) hnl hnz _ (qbh m) [] 0 rfl rfl ?_ ?_
   ·intro h i
    refine wN ?_
    refine wR0 1600 [2] cJ0 ?_
    refine wP ?_
    exact qad h.symm
   ·intro h
    refine wN ?_
    exact⟨by simp,_,rfl,by exact qad h.symm⟩
end
end Go.Proofs.YtpplncjaihgimaaGreat
