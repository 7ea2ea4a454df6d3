/- Contracts of functions of the program, for all arguments that they name. -/
import Derived.Test.YtkbjpglehdhjfaaGreatDoorSorts
import Derived.Test.YtkbjpglehdhjfaaGreatDoorK18
import Derived.Test.YtkbjpglehdhjfaaGreatDoorK19
namespace Go.Proofs.YtkbjpglehdhjfaaGreatDoor
set_option linter.unusedVariables false
section
open Go.RowKit
set_option maxHeartbeats 2000000
attribute [local simp] qau qav qaD qaJ qa1 qbo qaB qah qa5 qaI
theorem Fz.frz {H:Heap}{x y:T}(h:Fz H (fun _=>false) x y):Frz H x y:=by
 induction h with
 | same h=>exact .same h
 | nil=>exact .nil
 | agg hl h1 _ ih=>exact .agg hl h1 ih
 | tup hl _ ih=>exact .tup hl ih
 | fn hl _ ih=>exact .fn hl ih
 | sl hb _ ht hf hn hs h1 _ ih=>exact .sl hb ht hf hn hs h1 ih
 | ref hb _ ht hf h1 _ ih=>exact .ref hb ht hf h1 ih
set_option maxHeartbeats 4000000 in
theorem qqJ (s:Int)(v:List Int)(hl:v.length≤100000)(Q:IExit→(Nat→T)→Heap→Prop)
 (hQ:∀j:Int,Q (.exit 0) (ofL [(4,.ref 0 2 0),(5,.ref 104 2 0),(12,.list (qad v)),(13,.int .i64 (qad v).length),(14,.int .i64 j),(15,.bool false)]) (hpL (rcH (s::v)))) :
 ∀(f i:Nat) (done:List Int),i+f=v.length→done=s::v.take i→
 WL Tryz.prog 27 qmx (ofL [(4,.ref 0 2 0),(5,.ref 104 2 0),(12,.list (qad v)),(13,.int .i64 (qad v).length),(14,.int .i64 i)]) (hpL (rcH done)) Q:=by
 simp only[rcH] at hQ ⊢
 intro f
 induction f with
 | zero=>
  intro i done hi hdn
  have hd:decide ((i:Int)<((qad v).length:Int))=false:=decide_eq_false (by rw[qae];omega)
  have e:done=s::v:=by rw[hdn,List.take_of_length_le (by omega)]
  subst e
  have fX:=@hd
  refine qaa qmx.eq_1 ?_
  refine wR0 300 [4,5,12,13,14,15] fX ?_
  refine wF @hd ?_
  refine wX ?_
  refine wN ?_
  exact hQ _
 | succ f ih=>
  intro i done hi hdn
  have hlt:(i:Int)<((qad v).length:Int):=by rw[qae];omega
  have hd:decide ((i:Int)<((qad v).length:Int))=true:=decide_eq_true hlt
  have hw:IntKind.wrap .i64 ((i:Int)+1)=((i+1:Nat):Int):=by rw[wrap64 (by omega) (by omega)];rfl
  have hg:=qcu v i (by omega)
  have hQ':=ih (i+1) (done++[v.getD i 0]) (by omega) (by
   rw[hdn,qia v i (by omega)];rfl)
  have hap:=qhr done (v.getD i 0)
  have hdl:done.length=i+1:=by rw[hdn,List.length_cons,List.length_take];omega
  have hfl:=qfF done
  have fX:=(cJ6 @hd @hw @hg @qaF @hap @hfl)
  refine qaa qmx.eq_1 ?_
  refine W_gc ?_
  refine wR0 300 [4,5,12,13,14,15] fX ?_
  refine wT @hd ?_
  refine wR0 400 [4,5,7,12,13,14] fX ?_
  refine wR0 500 [4,5,12,13,14] fX ?_
  refine wR0 600 [4,5,12,13,14] fX ?_
  refine wN ?_
  refine qay [0,102,104] (by simp[inL]) (by simp[inL,T.cl,qah]) (by simp[qaf,inL,Slot.cl,T.cl,clL]) ?_
  simpa [qaf,inL,Nat.add_mul] using hQ'
theorem qgl (s:Int)(v:List Int)(hl:v.length≤100000):TP Tryz.prog 42 [.int .i64 s,.list (qad v)] (encV (cfV s v)):=by
 have hL:=fun Q h=>qqJ s v hl Q h v.length 0 [s] (by omega) rfl
 rw[qbv]
 have hfz:∀H:Heap,H 102=.live ⟨35,flatK (s::v)⟩→Frz H (.agg [.int .i64 0,.sl 102 ((v.length+1)*2) 2 0 (v.length+1)]) (.agg [.int .i64 0,.list (encV (natV s)::qaj (v.map natV))]):=fun H h=>
  Frz.aggL (.cons (.same (x:=.int .i64 0) rfl) (.cons (qmr (s::v) h rfl rfl) .nil)) rfl
 simp only[rcH,flatK,List.length_cons,List.length_nil] at hL
 have fX:=@qaF
 refine qag fn42 (by simp) ?_
 unfold i42
 simp only[argL,encV]
 refine wR0 0 [0,1,4] fX ?_
 refine wR0 100 [1,4,5] fX ?_
 refine wR0 200 [4,5,12,13,14] fX ?_
 refine wL ?_
 refine hL _ ?_
 ·intro j
  refine wN ?_
  refine wR0 700 [4] fX ?_
  refine wP ?_
  exact hfz _ rfl
def begT (p:Pg):T:=if okP p=true then .tup [.int .i64 0,.list (qad (qaN (plcs p).length 0)),.int .i64 0] else .tup [.int .i64 0,.list [],.int .i64 47]
theorem qpk {H:Heap}{id ty tot n:Nat}(m:Nat)(hb:H id=.live ⟨ty,.int .i64 1::qad (List.replicate m 0)⟩)(hn:n=m+1)(ht:tot=m+1):Frz H (.sl id tot 0 0 n) (.list (qad (qaN (m+1) 0))):=by
 refine qbn (qaN (m+1) 0) hb ?_ ?_<;>simp[qaV,hn,ht]
set_option maxHeartbeats 4000000 in
theorem qp3 (p:Pg)(hp:p.fit):TP Tryz.prog 40 [qar p] (begT p):=by
 have hck:=qfR p hp
 have hpp:=qc0 p hp
 rw[ckPg] at hck
 unfold begT
 by_cases hok:okP p=true
 ·rw[if_pos hok] at hck ⊢
  have hz:((0:Int) != 0)=false:=rfl
  have hpl:(qbe (plP p)).length=(plcs p).length:=by rw[qa0,qbV hok]
  have hpos:0<(plcs p).length:=by
   have ho:=qbq hok
   have:=(ho.th _ (List.getElem_mem (show 0<p.ths.length from ho.pos))).pos
   exact Nat.lt_of_le_of_lt (Nat.zero_le _) (qcS (IsPl.zero ho ho.pos))
  obtain⟨m,hm⟩:∃m,(plcs p).length=m+1:=⟨(plcs p).length - 1,by omega⟩
  have h6:m+1≤6:=by rw[←hm,qbh];exact (qbq hok).six
  rw[hm] at hpl ⊢
  have hrp:repl (m+1) [T.int .i64 0]=.int .i64 0::qad (List.replicate m 0):=qn8 (m+1)
  have hnn:((m+1:Nat):Int).toNat=m+1:=by simp
  have hel:(qad (List.replicate m 0)).length=m:=by rw[qae,List.length_replicate]
  have hlt:(0:Int)<((m+1:Nat):Int):=by omega
  simp only[qar,pgC] at hck hpp ⊢
  generalize qbe (plP p)=PS at*
  have fX:=(cJ5 @hz @hpl @hrp @hnn @hel)
  refine qag fn40 (by simp) ?_
  unfold i40
  simp only[argL]
  refine wR0 0 [1] fX ?_
  refine wRn 100 [1,5] fX ?_
  refine rC fX ?_
  refine⟨_,hck,rE fX ?_⟩
  refine wR0 200 [1,5,10] fX ?_
  refine wF @hz ?_
  refine wRn 400 [6] fX ?_
  refine rC fX ?_
  refine⟨_,hpp,rE fX ?_⟩
  refine wR0 500 [6] fX ?_
  refine wR0 600 [2,3,4] fX ?_
  refine wP ?_
  exact qbU (.same rfl) (qpk m rfl rfl rfl) (.same rfl)
 ·rw[if_neg hok] at hck ⊢
  have hz:((47:Int) != 0)=true:=rfl
  simp only[qar,pgC] at hck ⊢
  have fX:=@hz
  refine qag fn40 (by simp) ?_
  unfold i40
  simp only[argL]
  refine wR0 0 [1] fX ?_
  refine wRn 100 [1,5] fX ?_
  refine rC fX ?_
  refine⟨_,hck,rE fX ?_⟩
  refine wR0 200 [1,5,10] fX ?_
  refine wT @hz ?_
  refine wR0 300 [2,3,4] fX ?_
  refine wP ?_
  exact qbU (.same rfl) .nil (.same rfl)
end
section
open Go.RowKit
set_option maxHeartbeats 2000000
attribute [local simp] qau qav qaD qaJ qa1 qbo qaB qah qa5 qaI qaO qdz
def crL (p:Pg)(r:Nat)(x:Int×Ev):Cr:=⟨nmS 114 r,x.1,x.2.val,qaN (plcs p).length (evNo p x.2),doC p (qaN (plcs p).length (evNo p x.2)) x.2⟩
def crsL (p:Pg):List Cr:=(mngs p).mapIdx (crL p)
theorem qjb (p:Pg):(crsL p).length=(mngs p).length:=by simp[crsL]
theorem qrF (p:Pg)(i:Nat)(h:i<(mngs p).length):(crsL p).getD i default=crL p i ((mngs p).getD i (0,default)):=by
 simp[crsL,List.getD_eq_getElem?_getD,h]
theorem qoY (p:Pg):(crsL p).map Cr.rl=(mdl p).rules:=by
 simp only[crsL,mdl]
 apply List.ext_getElem
 ·simp
 ·intro i h1 h2
  simp[crL,Cr.rl,mrl]
theorem qtT (l:List Cr)(i:Nat)(h:i<l.length):l.take (i+1)=l.take i++[l.getD i default]:=by
 rw[List.getD_eq_getElem?_getD,List.getElem?_eq_getElem h,Option.getD_some]
 exact (List.take_append_getElem h).symm
theorem sS_get (l:List ByteArray)(i:Nat)(h:i<l.length)(d:ByteArray):(qaq l).getD (i:Int).toNat .undef=.str (l.getD i d):=by
 simp[qaq,List.getD_eq_getElem?_getD,h]
theorem qpV (c:UInt8)(n i:Nat)(h:i<n)(d:ByteArray):(nmsS c n).getD i d=nmS c i:=by
 simp[nmsS,List.getD_eq_getElem?_getD,h]
def qij (id:Nat)(done:List Cr):T:=match done with
 | []=>.nil
 | d::ds=>.sl id ((ds.length+1)*14) 14 0 (ds.length+1)
def qob (id:Nat)(done:List Cr):List (Nat×Slot):=match done with
 | []=>[]
 | d::ds=>[(id,.live ⟨91,(d::ds).flatMap crC⟩)]
abbrev zMd:List T:=[.int .i64 0,.nil,.nil,.nil,.nil,.int .i64 0,.int .i64 0,.nil,.int .i64 0,.nil]
abbrev moH (p:Pg)(SS PS KS:List T)(done:List Cr):List (Nat×Slot):=[(0,.live ⟨28,pgC p⟩),(1,.live ⟨37,zMd⟩),(610,.live ⟨37,[.int .i64 1,.list SS,.list PS,.nil,.nil,.int .i64 0,.int .i64 0,qij 1412 done,.int .i64 0,.list KS]⟩)]++qob 1412 done
abbrev moE (ms ps ns:List T)(N:Nat)(i:Int):List (Nat×T):=[(1,.ref 0 2 0),(2,.ref 1 10 0),(4,.list ms),(6,.list ps),(10,.ref 610 10 0),(47,.list ns),(48,.int .i64 (N:Int)),(49,.int .i64 i)]
theorem qrG (l:List Cr):Ones (l.flatMap crC):=fun c hc=>by
 obtain⟨a,_,hc⟩:=List.mem_flatMap.1 hc
 simp only[crC,List.mem_cons,List.not_mem_nil,or_false] at hc
 rcases hc with rfl | rfl | rfl | rfl | rfl | rfl | rfl | rfl | rfl | rfl | rfl | rfl | rfl | rfl<;>rfl
set_option maxHeartbeats 16000000 in
theorem qsi (p:Pg)(hp:p.fit)(hok:okP p=true)(n:Nat)(hn:n=(plcs p).length)(ms ps ns SS PS KS:List T)(hms:ms=qcc (mngs p))(hps:ps=qbe (plP p))(N:Nat)(hN:N=(mngs p).length)(hN2:N≤12)(hns:ns=qaq (nmsS 114 N))(hSc:∀D,clL D SS=true)(hPc:∀D,clL D PS=true)(hKc:∀D,clL D KS=true)(Q:IExit→(Nat→T)→Heap→Prop)
 (hQ:∀j:Int,Q (.exit 0) (ofL (moE ms ps ns N j++[(50,.bool false)])) (hpL (moH p SS PS KS (crsL p)))):∀(f i:Nat) (done:List Cr),i+f=N→done=(crsL p).take i→
 WL Tryz.prog 99 qku (ofL (moE ms ps ns N i)) (hpL (moH p SS PS KS done)) Q:=by
 have ho:=qbq hok
 have h6:n≤6:=by rw[hn,qbh];exact ho.six
 have hmc:∀D,clL D ms=true:=fun D=>by rw[hms];exact qdz D _
 have hpc:∀D,clL D ps=true:=fun D=>by rw[hps];exact qaI D _
 have hnc:∀D,clL D ns=true:=fun D=>by rw[hns];exact qaO D _
 simp only[moE,moH,List.cons_append,List.nil_append] at hQ ⊢
 intro f
 induction f with
 | zero=>
  intro i done hf hdn
  have hd:decide ((i:Int)<(N:Int))=false:=decide_eq_false (by omega)
  have e:done=crsL p:=by rw[hdn,List.take_of_length_le (by rw[qjb];omega)]
  subst e
  have fX:=@hd
  refine qaa qku.eq_1 ?_
  refine wR0 800 [1,2,4,6,10,47,48,49,50] fX ?_
  refine wF @hd ?_
  refine wX ?_
  refine wN ?_
  exact hQ _
 | succ f ih=>
  intro i done hf hdn
  have hil:i<(mngs p).length:=by omega
  have hd:decide ((i:Int)<(N:Int))=true:=decide_eq_true (by omega)
  have hw:IntKind.wrap .i64 ((i:Int)+1)=((i+1:Nat):Int):=by rw[wrap64 (by omega) (by omega)];rfl
  have hml:ms.length=N:=by rw[hms,qdA];exact hN.symm
  have hnl:ns.length=N:=by rw[hns,qai,qcI]
  have hlm:(i:Int)<(ms.length:Int):=by omega
  have hln:(i:Int)<(ns.length:Int):=by omega
  have hg:=qiw (mngs p) i hil
  rw[←hms] at hg
  have hgn:=sS_get (nmsS 114 N) i (by rw[qcI];omega) ⟨#[]⟩
  rw[←hns,qpV _ _ _ (by omega)] at hgn
  have hQ':=ih (i+1) (done++[crL p i ((mngs p).getD i (0,default))]) (by omega) (by rw[hdn,qtT _ _ (by rw[qjb];exact hil),qrF p i hil])
  have hmg:=qjP ho hil (0,default)
  have hxm:(mngs p).getD i (0,default)∈mngs p:=by
   rw[List.getD_eq_getElem?_getD,List.getElem?_eq_getElem hil,Option.getD_some]
   exact List.getElem_mem hil
  generalize (mngs p).getD i (0,default)=x at*
  have hno:=hmg.no
  have hu:=qie hok (v:=x.1) hmg.from_ (evNo p x.2)
  have hcan:canM p x.1 (qaN (plcs p).length (evNo p x.2)) x=true:=by
   rw[canM,qbO _ _ _ hno];simp
  have hdo:=pdo_tp p hp x.1 (qaN (plcs p).length (evNo p x.2)) (by rw[qaV,qbh];have:=ho.six;omega) x.2
  rw[(qtk ho hok hxm (by omega) hu hcan).1] at hdo
  obtain⟨i1,k1,hpl1,_,hev⟩:=hmg.pl
  have hix:=qp9 ((i1:Int),(k1:Int)) (plP p) (by rw[qbV hok,←hn];omega)
  rw[qqa hok hpl1,←hps] at hix
  have hnum:evNo p x.2=plNo p i1 k1:=by rw[evNo,hev.th,hev.ln];rfl
  rw[hnum] at hdo hno
  simp only[crL,hnum] at hQ'
  rw[←hn] at hdo hno hQ'
  have hpll:ps.length=n:=by rw[hps,qa0,qbV hok,hn]
  have hth:=hev.th
  have hlnn:=hev.ln
  clear hev hcan hu hmg hxm hpl1 hnum hms hps hns hil
  obtain⟨xv,⟨th,ln,num,val,nxt⟩⟩:=x
  simp only at hdo hQ' hth hlnn hg
  subst hth hlnn
  generalize nmS 114 i=nm at*
  generalize plNo p i1 k1=j at*
  have hj1:(j:Int).toNat*1=j:=by simp
  have hnn:(n:Int).toNat=n:=by simp
  have hrp:repl n [T.int .i64 0]=qad (List.replicate n 0):=qn8 n
  have hel:(qad (List.replicate n 0)).length=n:=by rw[qae,List.length_replicate]
  have hsw:=qi0 (List.replicate n 0) 1 j (by rw[List.length_replicate];exact hno)
  have hlu:n=(qaN n j).length:=(qaV n j).symm
  have hun:(List.replicate n (0:Int)).set j 1=qaN n j:=rfl
  have hjn:(j:Int)<(n:Int):=by omega
  rw[hun] at hsw
  have hpl:=hpll
  generalize qaN n j=un at*
  have hzo:Ones zMd:=fun c hc=>List.all_eq_true.1 (show (zMd.all T.one)=true from rfl) c hc
  simp only[doT,mgC,qar,pgC,evC,pC] at hg hdo hix hQ' ⊢
  cases done with
  | nil=>
   have hmo:Ones [T.int .i64 1,.list SS,.list PS,.nil,.nil,.int .i64 0,.int .i64 0,.nil,.int .i64 0,.list KS]:=fun c hc=>List.all_eq_true.1 (show (List.all _ T.one)=true from rfl) c hc
   simp only[qij,qob,List.nil_append,List.append_nil,List.length_nil,List.flatMap_cons,List.flatMap_nil,Nat.zero_add] at hQ' ⊢
   have fX:=(cJ8 @hd @hw @hg @hgn @hpl @hrp @hnn (cJ4 @hj1 @hel @hsw @qb0))
   refine qaa qku.eq_1 ?_
   refine W_gc ?_
   refine wR0 800 [1,2,4,6,10,47,48,49,50] fX ?_
   refine wT @hd ?_
   refine wR0 900 [1,2,4,6,10,11,12,47,48,49] fX ?_
   refine wR0 1000 [1,2,4,6,10,12,13,47,48,49] fX ?_
   refine wR0 1100 [1,2,4,6,10,12,13,14,47,48,49] fX ?_
   refine wRn 1200 [1,2,4,6,10,12,13,14,47,48,49] fX ?_
   refine rC fX ?_
   refine⟨_,hix,rE fX ?_⟩
   simp only[thn]
   skip
   refine qbZ (l':=[(1,.ref 0 2 0),(2,.ref 1 10 0),(4,.list ms),(6,.list ps),(10,.ref 610 10 0),(12,.str nm),(13,.ref 1004 6 0),(14,.list (qad un)),(47,.list ns),(48,.int .i64 (N:Int)),(49,.int .i64 (i:Int))]) (hl':=[(0,.live ⟨28,_⟩),(1,.live ⟨37,zMd⟩),(610,.live ⟨37,_⟩),(1004,.live ⟨100,_⟩),(1102,.dead)]) [0,1,610,1004,1412] (.cons (.same rfl) (.cons (.same rfl) (.cons (.same (hmc _)) (.cons (.same (hpc _)) (.cons (.same rfl) (.cons (.same rfl) (.cons (.same rfl) (.cons (qcR _ rfl rfl hlu hlu) (.cons (.same (hnc _)) (.cons (.same rfl) (.cons (.same rfl) .nil))))))))))) (.keep rfl (.liveS (qaD _ p) (qa3 p)) (.keep rfl (.liveS rfl hzo) (.keep rfl (.liveS (by simp[clL,T.cl,hSc,hPc,hKc]) hmo) (.keep rfl (.liveS rfl (qgZ (xv,⟨_,_,num,val,nxt⟩))) (.dead rfl (fun h=>by cases h) .nil))))) ?_
   refine wRn 1300 [1,2,4,6,10,12,13,14,16,47,48,49] fX ?_
   refine rC fX ?_
   refine⟨_,hdo,rE fX ?_⟩
   refine wR0 1400 [1,2,4,6,10,47,48,49] fX ?_
   refine wR0 1500 [1,2,4,6,10,47,48,49] fX ?_
   refine wN ?_
   refine qay [0,1,610,1412] (by simp[inL]) (by simp[inL,T.cl,hpc,hmc,hnc]) (by simp[qaf,inL,Slot.cl,T.cl,clL,hSc,hPc,hKc]) ?_
   simpa [qaf,inL,crC] using hQ'
  | cons z zs=>
   have hmo:Ones [T.int .i64 1,.list SS,.list PS,.nil,.nil,.int .i64 0,.int .i64 0,.sl 1412 ((zs.length+1)*14) 14 0 (zs.length+1),.int .i64 0,.list KS]:=fun c hc=>List.all_eq_true.1 (show (List.all _ T.one)=true from rfl) c hc
   have hsn:∀c:Cr,(z::(zs++[c])).flatMap crC=(z::zs).flatMap crC++crC c:=fun c=>by simp[List.flatMap_append]
   have hm2:(zs.length+1+1)*14=(zs.length+1)*14+14:=by omega
   have hfl:((z::zs).flatMap crC).length=(zs.length+1)*14:=qch crC 14 (fun _=>rfl) _
   have hzb:zs.length+1≤100000:=by
    have:=congrArg List.length hdn
    rw[List.length_take,qjb] at this
    simp at this;omega
   simp only[qij,qob,List.cons_append,List.length_append,List.length_cons,List.length_nil,Nat.zero_add,hsn,hm2] at hQ' ⊢
   have fX:=(cJ8 @hd @hw @hg @hgn @hpl @hrp @hnn (cJ5 @hj1 @hel @hsw @qb0 @hfl))
   refine qaa qku.eq_1 ?_
   refine W_gc ?_
   refine wR0 800 [1,2,4,6,10,47,48,49,50] fX ?_
   refine wT @hd ?_
   refine wR0 900 [1,2,4,6,10,11,12,47,48,49] fX ?_
   refine wR0 1000 [1,2,4,6,10,12,13,47,48,49] fX ?_
   refine wR0 1100 [1,2,4,6,10,12,13,14,47,48,49] fX ?_
   refine wRn 1200 [1,2,4,6,10,12,13,14,47,48,49] fX ?_
   refine rC fX ?_
   refine⟨_,hix,rE fX ?_⟩
   simp only[thn]
   skip
   refine qbZ (l':=[(1,.ref 0 2 0),(2,.ref 1 10 0),(4,.list ms),(6,.list ps),(10,.ref 610 10 0),(12,.str nm),(13,.ref 1004 6 0),(14,.list (qad un)),(47,.list ns),(48,.int .i64 (N:Int)),(49,.int .i64 (i:Int))]) (hl':=[(0,.live ⟨28,_⟩),(1,.live ⟨37,zMd⟩),(610,.live ⟨37,_⟩),(1412,.live ⟨91,(z::zs).flatMap crC⟩),(1004,.live ⟨100,_⟩),(1102,.dead)]) [0,1,610,1004,1412] (.cons (.same rfl) (.cons (.same rfl) (.cons (.same (hmc _)) (.cons (.same (hpc _)) (.cons (.same rfl) (.cons (.same rfl) (.cons (.same rfl) (.cons (qcR _ rfl rfl hlu hlu) (.cons (.same (hnc _)) (.cons (.same rfl) (.cons (.same rfl) .nil))))))))))) (.keep rfl (.liveS (qaD _ p) (qa3 p)) (.keep rfl (.liveS rfl hzo) (.keep rfl (.liveS (by simp[clL,T.cl,hSc,hPc,hKc,inL]) hmo) (.keep rfl (.liveS (qmi _ _) (qrG _)) (.keep rfl (.liveS rfl (qgZ (xv,⟨_,_,num,val,nxt⟩))) (.dead rfl (fun h=>by cases h) .nil)))))) ?_
   refine wRn 1300 [1,2,4,6,10,12,13,14,16,47,48,49] fX ?_
   refine rC fX ?_
   refine⟨_,hdo,rE fX ?_⟩
   refine wR0 1400 [1,2,4,6,10,47,48,49] fX ?_
   refine wR0 1500 [1,2,4,6,10,47,48,49] fX ?_
   refine wN ?_
   refine qay [0,1,610,1412] (by simp[inL]) (by simp[inL,T.cl,hpc,hmc,hnc]) (by simp[qaf,inL,Slot.cl,T.cl,clL,qab,crC,qmi,hSc,hPc,hKc]) ?_
   simpa [qaf,inL,crC] using hQ'
def noMd:Md:=⟨0,[],[],[],[],0,0,[],.mk 0 []⟩
def qd8 (p:Pg):T:=if okP p=true then (if (mngs p).length≤12 then .tup [qaA (mdl p),.int .i64 0] else .tup [qaA noMd,.int .i64 1]) else .tup [qaA noMd,.int .i64 47]
theorem qmq {H:Heap}:Frz H (.agg zMd) (qaA noMd):=by
 refine .agg rfl (qd0 _) fun k hk=>?_
 match k,hk with
 | 0,_=>exact .same rfl
 | 1,_=>exact .nil
 | 2,_=>exact .nil
 | 3,_=>exact .nil
 | 4,_=>exact .nil
 | 5,_=>exact .same rfl
 | 6,_=>exact .same rfl
 | 7,_=>exact .nil
 | 8,_=>exact .same rfl
 | 9,_=>exact .nil
theorem qpl {H:Heap}{p:Pg}(hr:Frz H (qij 1412 (crsL p)) (.list (qaR (mdl p).rules))):Frz H (.agg [.int .i64 1,.list (qaq (nmsS 115 p.vals.toNat)),.list (qaq (nmsS 112 (plcs p).length)),.nil,.nil,.int .i64 0,.int .i64 0,qij 1412 (crsL p),.int .i64 0,.list (encV (natV 0)::qaj ((qaN (plcs p).length 0).map natV))]) (qaA (mdl p)):=by
 refine .agg rfl (qd0 _) fun k hk=>?_
 match k,hk with
 | 0,_=>exact .same rfl
 | 1,_=>exact .same (qaO _ _)
 | 2,_=>exact .same (qaO _ _)
 | 3,_=>exact .nil
 | 4,_=>exact .nil
 | 5,_=>exact .same rfl
 | 6,_=>exact .same rfl
 | 7,_=>exact hr
 | 8,_=>exact .same rfl
 | 9,_=>exact .same (by show T.cl _ (.list (encV (natV 0)::qaj ((qaN (plcs p).length 0).map natV)))=true;simp[T.cl,clL,qak,qb2])
theorem qt2 {H:Heap}(p:Pg)(z:Cr)(zs:List Cr)(h:crsL p=z::zs)(hb:H 1412=.live ⟨91,(z::zs).flatMap crC⟩):Frz H (qij 1412 (crsL p)) (.list (qaR (mdl p).rules)):=by
 rw[←qoY,h]
 exact (fz_crs (z::zs) rfl hb).frz
set_option maxHeartbeats 16000000 in
theorem qcH (p:Pg)(hp:p.fit):TP Tryz.prog 11 [qar p] (qd8 p):=by
 have hof:=qny p hp
 unfold qd8
 unfold ofT at hof
 by_cases hok:okP p=true
 ·rw[if_pos hok] at hof ⊢
  by_cases hl:(mngs p).length≤12
  ·rw[if_pos hl] at hof ⊢
   have ho:=qbq hok
   have hpp:=qc0 p hp
   have hbg:=qp3 p hp
   rw[begT,if_pos hok] at hbg
   have h6:(plcs p).length≤6:=by rw[qbh];exact ho.six
   have hv:=ho.vals
   have hnv:=qib 115 p.vals.toNat (by omega)
   have hvv:(p.vals.toNat:Int)=p.vals:=by omega
   rw[hvv] at hnv
   have hnp:=qib 112 (plcs p).length (by omega)
   have hnr:=qib 114 (mngs p).length (by omega)
   have hcf:=qgl 0 (qaN (plcs p).length 0) (by rw[qaV];omega)
   rw[qbv] at hcf
   have hpl:(qbe (plP p)).length=(plcs p).length:=by rw[qa0,qbV hok]
   have hml:(qcc (mngs p)).length=(mngs p).length:=qdA _
   have hnl:(qaq (nmsS 114 (mngs p).length)).length=(mngs p).length:=by rw[qai,qcI]
   have hz:((0:Int) != 0)=false:=rfl
   have hL:=fun Q a=>qsi p hp hok (plcs p).length rfl (qcc (mngs p)) (qbe (plP p)) (qaq (nmsS 114 (mngs p).length)) (qaq (nmsS 115 p.vals.toNat)) (qaq (nmsS 112 (plcs p).length)) (encV (natV 0)::qaj ((qaN (plcs p).length 0).map natV)) rfl rfl (mngs p).length rfl hl rfl (fun D=>qaO D _) (fun D=>qaO D _) (fun D=>by simp[clL,qak,qb2]) Q a (mngs p).length 0 [] (by omega) (by simp)
   simp only[moE,moH,qar,pgC,List.cons_append,List.nil_append,List.append_nil,Int.natCast_zero,qij,qob] at hof hpp hbg hL ⊢
   rcases hcs:crsL p with _ | ⟨z,zs⟩
   ·have hr:∀H:Heap,Frz H (qij 1412 (crsL p)) (.list (qaR (mdl p).rules)):=fun H=>by
     rw[←qoY,hcs];exact .nil
    have hfm:∀H:Heap,Frz H _ (qaA (mdl p)):=fun H=>qpl (hr H)
    rw[hcs] at hL hfm
    simp only[qij] at hL hfm
    have fX:=(cJ4 @hz @hpl @hml @hnl)
    refine qag fn11 (by simp) ?_
    unfold i11
    simp only[argL]
    refine wR0 0 [1,2] fX ?_
    refine wRn 100 [1,2,4,5] fX ?_
    refine rC fX ?_
    refine⟨_,hof,rE fX ?_⟩
    refine wR0 200 [1,2,4,5,24] fX ?_
    refine wF @hz ?_
    refine wRn 400 [1,2,4,6] fX ?_
    refine rC fX ?_
    refine⟨_,hpp,rE fX ?_⟩
    refine wRn 500 [1,2,4,6,7,8] fX ?_
    refine rC fX ?_
    refine⟨_,hbg,rE fX ?_⟩
    refine wRn 600 [1,2,4,6,10] fX ?_
    refine rC fX ?_
    refine⟨_,hnv,rN fX ?_⟩
    refine rC fX ?_
    refine⟨_,hnp,rN fX ?_⟩
    refine rC fX ?_
    refine⟨_,hcf,rE fX ?_⟩
    refine wRn 700 [1,2,4,6,10,47,48,49] fX ?_
    refine rC fX ?_
    refine⟨_,hnr,rE fX ?_⟩
    refine wL ?_
    refine hL _ ?_
    ·intro j
     refine wN ?_
     refine wR0 1600 [2,3] fX ?_
     refine wP ?_
     exact qaK (hfm _) (.same rfl)
   ·have hfm:∀H:Heap,H 1412=.live ⟨91,(z::zs).flatMap crC⟩→Frz H _ (qaA (mdl p)):=fun H hb=>qpl (qt2 p z zs hcs hb)
    rw[hcs] at hL hfm
    simp only[qij] at hL hfm
    have fX:=(cJ4 @hz @hpl @hml @hnl)
    refine qag fn11 (by simp) ?_
    unfold i11
    simp only[argL]
    refine wR0 0 [1,2] fX ?_
    refine wRn 100 [1,2,4,5] fX ?_
    refine rC fX ?_
    refine⟨_,hof,rE fX ?_⟩
    refine wR0 200 [1,2,4,5,24] fX ?_
    refine wF @hz ?_
    refine wRn 400 [1,2,4,6] fX ?_
    refine rC fX ?_
    refine⟨_,hpp,rE fX ?_⟩
    refine wRn 500 [1,2,4,6,7,8] fX ?_
    refine rC fX ?_
    refine⟨_,hbg,rE fX ?_⟩
    refine wRn 600 [1,2,4,6,10] fX ?_
    refine rC fX ?_
    refine⟨_,hnv,rN fX ?_⟩
    refine rC fX ?_
    refine⟨_,hnp,rN fX ?_⟩
    refine rC fX ?_
    refine⟨_,hcf,rE fX ?_⟩
    refine wRn 700 [1,2,4,6,10,47,48,49] fX ?_
    refine rC fX ?_
    refine⟨_,hnr,rE fX ?_⟩
    refine wL ?_
    refine hL _ ?_
    ·intro j
     refine wN ?_
     refine wR0 1600 [2,3] fX ?_
     refine wP ?_
     exact qaK (hfm _ rfl) (.same rfl)
  ·rw[if_neg hl] at hof ⊢
   have hz:((1:Int) != 0)=true:=rfl
   simp only[qar,pgC] at hof ⊢
   have fX:=@hz
   refine qag fn11 (by simp) ?_
   unfold i11
   simp only[argL]
   refine wR0 0 [1,2] fX ?_
   refine wRn 100 [1,2,4,5] fX ?_
   refine rC fX ?_
   refine⟨_,hof,rE fX ?_⟩
   refine wR0 200 [1,2,4,5,24] fX ?_
   refine wT @hz ?_
   refine wR0 300 [2,3] fX ?_
   refine wP ?_
   exact qaK qmq (.same rfl)
 ·rw[if_neg hok] at hof ⊢
  have hz:((47:Int) != 0)=true:=rfl
  simp only[qar,pgC] at hof ⊢
  have fX:=@hz
  refine qag fn11 (by simp) ?_
  unfold i11
  simp only[argL]
  refine wR0 0 [1,2] fX ?_
  refine wRn 100 [1,2,4,5] fX ?_
  refine rC fX ?_
  refine⟨_,hof,rE fX ?_⟩
  refine wR0 200 [1,2,4,5,24] fX ?_
  refine wT @hz ?_
  refine wR0 300 [2,3] fX ?_
  refine wP ?_
  exact qaK qmq (.same rfl)
end
section
open Go.RowKit
set_option maxHeartbeats 2000000
attribute [local simp] qau qav qaD qaJ qa1 qbo qaB qah qa5 qaI qaO qdz
def qgL (p:Pg)(v:Int)(c:List Int):T:=if rgtP p v c=0 then .tup [encV (cfV v c),.int .i64 0] else .tup [encV (.mk 0 []),.int .i64 (rgtP p v c)]
theorem frz_v0 {H:Heap}:Frz H (.agg [.int .i64 0,.nil]) (encV (.mk 0 [])):=by
 rw[encV]
 exact Frz.aggL (.cons (.same (x:=.int .i64 0) rfl) (.cons .nil .nil)) rfl
set_option maxHeartbeats 8000000 in
theorem qc2 (p:Pg)(hp:p.fit)(hok:okP p=true)(hm:(mngs p).length≤12)(v:Int)(c:List Int)(hc:c.length≤100000):TP Tryz.prog 16 [qar p,.int .i64 v,.list (qad c)] (qgL p v c):=by
 have hof:=qny p hp
 rw[ofT,if_pos hok,if_pos hm] at hof
 have hst:=qfS p hp v c (by omega)
 rw[qec,qeb] at hst
 have hcf:=qgl v c hc
 unfold qgL
 have hz:((0:Int) != 0)=false:=rfl
 by_cases hr:rgtP p v c=0
 ·rw[if_pos hr] at hst ⊢
  simp only[qar,pgC] at hof hst ⊢
  rw[qbv] at hcf ⊢
  have fX:=@hz
  refine qag fn16 (by simp) ?_
  unfold i16
  simp only[argL,encV]
  refine wR0 0 [1,2,3,6] fX ?_
  refine wRn 100 [1,2,3,6,9] fX ?_
  refine rC fX ?_
  refine⟨_,hof,rE fX ?_⟩
  refine wR0 200 [1,2,3,6,9,18] fX ?_
  refine wF @hz ?_
  refine wRn 400 [1,2,6,11] fX ?_
  refine rC fX ?_
  refine⟨_,hst,rE fX ?_⟩
  refine wR0 500 [1,2,6,11,29] fX ?_
  refine wF @hz ?_
  refine wRn 700 [6,7] fX ?_
  refine rC fX ?_
  refine⟨_,hcf,rE fX ?_⟩
  refine wP ?_
  exact qaK (.same (by show T.cl _ (.agg [.int .i64 0,.list (encV (natV v)::qaj (c.map natV))])=true;simp[T.cl,clL,qak,qb2])) (.same rfl)
 ·rw[if_neg hr] at hst ⊢
  have hz2:(rgtP p v c != 0)=true:=by simpa using hr
  generalize rgtP p v c=r at*
  simp only[qar,pgC] at hof hst ⊢
  have fX:=(cJ2 @hz @hz2)
  refine qag fn16 (by simp) ?_
  unfold i16
  simp only[argL,encV]
  refine wR0 0 [1,2,3,6] fX ?_
  refine wRn 100 [1,2,3,6,9] fX ?_
  refine rC fX ?_
  refine⟨_,hof,rE fX ?_⟩
  refine wR0 200 [1,2,3,6,9,18] fX ?_
  refine wF @hz ?_
  refine wRn 400 [1,2,6,11] fX ?_
  refine rC fX ?_
  refine⟨_,hst,rE fX ?_⟩
  refine wR0 500 [1,2,6,11,29] fX ?_
  refine wT @hz2 ?_
  refine wR0 600 [6,7] fX ?_
  refine wP ?_
  exact qaK frz_v0 (.same rfl)
end
section
open Go.RowKit Go.Sort Go.Shelf
theorem qge:∀xs:List V,qcv xs=rowW (fun v=>[T.int .i64 v.n,T.list (qaj v.kids)]) xs
 | []=>rfl
 | x::xs=>by rw[qcv,qge xs];rfl
theorem qh7:Enters Tryz.prog 45:=enters_of Tryz.func45 (by kernel_rfl) rfl
theorem qsQ (id ty:Nat)(xs:List V)(hne:xs≠[])(hl:xs.length≤1000000)(hv:∀v∈xs,v.fit) :
 TC Tryz.prog 45 [.sl id (xs.length*2) 2 0 xs.length,.fn 46 []] (hpL [(id,.live ⟨ty,qcv xs⟩)]) (.tup []) (hpL [(id,.live ⟨ty,qcv (qlc xs)⟩)]):=by
 rw[qge,qge]
 refine quN Tryz.sorts45 _ 2 (fun _=>rfl) (fun x D=>by simp[clL,T.cl,qak]) (fun x c hc=>?_) (fun w=>?_) (fun w=>?_) cmpV qrA _ id ty xs (qlc xs) hne (by omega) (fun x hx y hy=>?_) (fun zs hp ha=>qns hp ha) qh7
 ·simp only[List.mem_cons,List.not_mem_nil,or_false] at hc
  rcases hc with rfl | rfl<;>rfl
 ·exact Tryz.isAgg35 w
 ·exact Tryz.sizeOf35 w
 ·have:=qlF x y (hv x hx) (hv y hy)
  rwa [qjg,qjg] at this
theorem qlf (g:Nat):TC Tryz.prog 45 [.nil,.fn g []] (fun _=>.free) (.tup []) (fun _=>.free):=by
 refine⟨qh7,fun w A μ vs hS hR=>?_⟩
 obtain⟨hs,hr⟩:=hR
 have hvs:vs=#[vs.getD 0 Go.undef,vs.getD 1 Go.undef]:=by
  refine Array.ext (by simpa using hs) fun i hi _=>?_
  have h2:vs.size=2:=by simpa using hs
  match i,(by omega:i<2) with
  | 0,_=>simp[hi]
  | 1,_=>simp[hi]
 have r0:=hr 0 (by simp)
 rw[hvs]
 generalize vs.getD 0 Go.undef=v0 at r0 ⊢
 generalize vs.getD 1 Go.undef=v1 at ⊢
 simp only[List.getD_eq_getElem?_getD,List.getElem?_cons_zero,Option.getD_some] at r0
 cases r0
 refine (AnyF.slices_SortFunc_none (P:=Tryz.prog) Tryz.sorts45 none 0 v1 w).mono ?_
 rintro en w' ⟨rfl,rfl⟩
 exact⟨_,A,μ,rfl,.tup #[] [] rfl (fun i hi=>by cases hi),hS,.refl _ _ _ _⟩
end
end Go.Proofs.YtkbjpglehdhjfaaGreatDoor
