/- Contracts of functions of the program, for all arguments that they name. -/
import Derived.Test.YtkbjpglehdhjfaaGreatDoorK13
import Derived.Test.YtkbjpglehdhjfaaGreatDoorK16
namespace Go.Proofs.YtkbjpglehdhjfaaGreatDoor
set_option linter.unusedVariables false
section
set_option maxRecDepth 100000
open Go.RowKit
set_option maxHeartbeats 2000000
attribute [local simp] qaO
def digS:ByteArray:=⟨#[48,49,50,51,52,53,54,55,56,57,97,98,99,100,101,102,103,104,105,106,107,108,109,110,111,112,113,114,115,116,117,118,119,120,121,122]⟩
def smlS:ByteArray:=⟨#[48,48,48,49,48,50,48,51,48,52,48,53,48,54,48,55,48,56,48,57,49,48,49,49,49,50,49,51,49,52,49,53,49,54,49,55,49,56,49,57,50,48,50,49,50,50,50,51,50,52,50,53,50,54,50,55,50,56,50,57,51,48,51,49,51,50,51,51,51,52,51,53,51,54,51,55,51,56,51,57,52,48,52,49,52,50,52,51,52,52,52,53,52,54,52,55,52,56,52,57,53,48,53,49,53,50,53,51,53,52,53,53,53,54,53,55,53,56,53,57,54,48,54,49,54,50,54,51,54,52,54,53,54,54,54,55,54,56,54,57,55,48,55,49,55,50,55,51,55,52,55,53,55,54,55,55,55,56,55,57,56,48,56,49,56,50,56,51,56,52,56,53,56,54,56,55,56,56,56,57,57,48,57,49,57,50,57,51,57,52,57,53,57,54,57,55,57,56,57,57]⟩
theorem dig_lo:∀i<10,digS.extract i (i+1)=qgg i:=by decide
theorem dig_hi:∀i<100,10≤i→smlS.extract (i*2) (i*2+2)=qgg i:=by decide
theorem quO (env:Nat→T)(x lo hi:Opd):req env (.sslice x (some lo) (some hi))=match x.ev env with
 | .str s=>match loI (some (lo.ev env)),hiI s.size (some (hi.ev env)) with
  | some l,some h=>if l≤h∧h≤s.size then some (.val (.str (s.extract l h))) else none
  | _,_=>none
 | _=>none:=rfl
theorem sslIf (i j n:Nat)(a b:Option Req)(h1:i≤j)(h2:j≤n):(if i≤j∧j≤n then a else b)=a:=if_pos ⟨h1,h2⟩
theorem sslIf0 (n:Nat)(a b:Option Nat):(if (0:Int)≤(n:Int) then a else b)=a:=if_pos (by omega)
theorem sslMap (f:Req→Prop×Req)(a:Req):Option.map f (some a)=some (f a):=rfl
theorem sslF:(∀(env:Nat→T) (x lo hi:Opd),req env (.sslice x (some lo) (some hi))=match x.ev env with
 | .str s=>match loI (some (lo.ev env)),hiI s.size (some (hi.ev env)) with
  | some l,some h=>if l≤h∧h≤s.size then some (.val (.str (s.extract l h))) else none
  | _,_=>none
 | _=>none)∧(∀(i j n:Nat) (a b:Option Req) (h1:i≤j) (h2:j≤n),(if i≤j∧j≤n then a else b)=a)∧(∀(n:Nat) (a b:Option Nat),(if (0:Int)≤(n:Int) then a else b)=a)∧(∀n:Nat,(n:Int).toNat=n)∧(∀(f:Req→Prop×Req) (a:Req),Option.map f (some a)=some (f a)):=⟨quO,sslIf,sslIf0,Int.toNat_natCast,sslMap⟩
theorem qo1:digS.size=36:=rfl
theorem qqN:smlS.size=200:=rfl
set_option maxHeartbeats 4000000 in
theorem qsH (i:Nat)(h:i<100):TP Tryz.prog 214 [.int .i64 (i:Int)] (.str (qgg i)):=by
 by_cases h1:i<10
 ·have hd:decide ((i:Int)<10)=true:=decide_eq_true (by omega)
  have hw:IntKind.wrap .i64 ((i:Int)+1)=((i+1:Nat):Int):=by rw[wrap64 (by omega) (by omega)];rfl
  have hx:=dig_lo i h1
  have hs:=qo1
  have hle:i+1≤36:=by omega
  have hl1:i≤i+1:=by omega
  have hde:(⟨#[48,49,50,51,52,53,54,55,56,57,97,98,99,100,101,102,103,104,105,106,107,108,109,110,111,112,113,114,115,116,117,118,119,120,121,122]⟩:ByteArray)=digS:=rfl
  have fX:=(cJ8 @hd @hw @hde @hx @hs @hle @hl1 @sslF)
  refine qag fn214 (by simp) ?_
  unfold i214
  simp only[argL]
  refine wR0 0 [0] fX ?_
  refine wR0 100 [0,4] fX ?_
  refine wT @hd ?_
  refine wR0 200 [2] fX ?_
  refine wP ?_
  exact .same rfl
 ·have hd:decide ((i:Int)<10)=false:=decide_eq_false (by omega)
  have hw:IntKind.wrap .i64 ((i:Int)*2)=((i*2:Nat):Int):=by rw[wrap64 (by omega) (by omega)];rfl
  have hw2:IntKind.wrap .i64 (((i*2:Nat):Int)+2)=((i*2+2:Nat):Int):=by rw[wrap64 (by omega) (by omega)];rfl
  have hx:=dig_hi i h (by omega)
  have hs:=qqN
  have hle:i*2+2≤200:=by omega
  have hl1:i*2≤i*2+2:=by omega
  simp only[smlS] at hx hs
  have fX:=(cJ8 @hd @hw @hw2 @hx @hs @hle @hl1 @sslF)
  refine qag fn214 (by simp) ?_
  unfold i214
  simp only[argL]
  refine wR0 0 [0] fX ?_
  refine wR0 100 [0,4] fX ?_
  refine wF @hd ?_
  refine wR0 300 [2] fX ?_
  refine wP ?_
  exact .same rfl
set_option maxHeartbeats 4000000 in
theorem qpg (i:Nat)(h:i<100):TP Tryz.prog 173 [.int .i64 (i:Int),.int .i64 10] (.str (qgg i)):=by
 have h0:decide ((0:Int)≤(i:Int))=true:=decide_eq_true (by omega)
 have h1:decide ((i:Int)<100)=true:=decide_eq_true (by omega)
 have hs:=qsH i h
 have fX:=(cJ2 @h0 @h1)
 refine qag fn173 (by simp) ?_
 unfold i173
 simp only[argL]
 refine wR0 0 [0,1] fX ?_
 refine wR0 100 [0,1,11] fX ?_
 refine wT fX ?_
 refine wR0 200 [0,17] fX ?_
 refine wT fX ?_
 refine wRn 300 [4] fX ?_
 refine rC fX ?_
 refine⟨_,hs,rE fX ?_⟩
 refine wP ?_
 exact .same rfl
theorem qr5 (i:Nat)(h:i<100):TP Tryz.prog 116 [.int .i64 (i:Int)] (.str (qgg i)):=by
 have hs:=qpg i h
 refine qag fn116 (by simp) ?_
 unfold i116
 simp only[argL]
 refine wR0 0 [0] cJ0 ?_
 refine wRn 100 [2] cJ0 ?_
 refine rC cJ0 ?_
 refine⟨_,hs,rE cJ0 ?_⟩
 refine wP ?_
 exact .same rfl
theorem qua (i:Nat)(h:i<100):TP Tryz.prog 67 [.int .i64 (i:Int)] (.str (qgg i)):=by
 have hs:=qr5 i h
 refine qag fn67 (by simp) ?_
 unfold i67
 simp only[argL]
 refine wR0 0 [0] cJ0 ?_
 refine wRn 100 [2] cJ0 ?_
 refine rC cJ0 ?_
 refine⟨_,hs,rE cJ0 ?_⟩
 refine wP ?_
 exact .same rfl
def qod (id:Nat)(done:List ByteArray):T:=match done with
 | []=>.nil
 | _::ds=>.sl id (ds.length+1) 0 0 (ds.length+1)
def qoc (id:Nat)(done:List ByteArray):List (Nat×Slot):=match done with
 | []=>[]
 | d::ds=>[(id,.live ⟨9,qaq (d::ds)⟩)]
set_option maxHeartbeats 4000000 in
theorem qs0 (c:UInt8)(n:Nat)(hn:n≤100)(R:List ByteArray)(Q:IExit→(Nat→T)→Heap→Prop)
 (hQ:∀j:Int,Q (.exit 0) (ofL [(0,.str ⟨#[c]⟩),(5,qod 506 R),(7,.int .i64 n),(8,.int .i64 j),(9,.bool false)]) (hpL (qoc 506 R))):∀(f i:Nat) (done:List ByteArray),i+f=n→done.length=i→done++(List.range' i f).map (nmS c)=R→
 WL Tryz.prog 20 qkz (ofL [(0,.str ⟨#[c]⟩),(5,qod 506 done),(7,.int .i64 n),(8,.int .i64 i)]) (hpL (qoc 506 done)) Q:=by
 intro f
 induction f with
 | zero=>
  intro i done hi hdn hR
  have hd:decide ((i:Int)<(n:Int))=false:=decide_eq_false (by omega)
  simp only[List.range'_zero,List.map_nil,List.append_nil] at hR
  subst hR
  have fX:=@hd
  refine qaa qkz.eq_1 ?_
  refine wR0 300 [0,5,7,8,9] fX ?_
  refine wF @hd ?_
  refine wX ?_
  refine wN ?_
  exact hQ _
 | succ f ih=>
  intro i done hi hdn hR
  have hd:decide ((i:Int)<(n:Int))=true:=decide_eq_true (by omega)
  have hw:IntKind.wrap .i64 ((i:Int)+1)=((i+1:Nat):Int):=by rw[wrap64 (by omega) (by omega)];rfl
  have hit:=qua i (by omega)
  have hsz:(⟨#[c]⟩:ByteArray).size+(qgg i).size≤1000000:=by
   have h1:(⟨#[c]⟩:ByteArray).size=1:=rfl
   have h2:(qgg i).size≤2:=by unfold qgg;split;exact (show (1:Nat)≤2 by omega);exact (show (2:Nat)≤2 by omega)
   omega
  have hQ':=ih (i+1) (done++[nmS c i]) (by omega) (by simp[hdn]) (by rw[←hR];simp[List.range'_succ])
  have hnm:nmS c i=(⟨#[c]⟩:ByteArray)++qgg i:=rfl
  rw[hnm] at hQ'
  cases done with
  | nil=>
   simp only[qod,qoc,List.nil_append,List.length_nil] at hQ' ⊢
   have fX:=(cJ7 @hd @hw @binS.eq_1 @binS.eq_2 @binS.eq_3 @hsz @qb0)
   refine qaa qkz.eq_1 ?_
   refine W_gc ?_
   refine wR0 300 [0,5,7,8,9] fX ?_
   refine wT @hd ?_
   refine wR0 400 [0,5,6,7,8] fX ?_
   refine wRn 500 [0,5,7,8] fX ?_
   refine rC fX ?_
   refine⟨_,hit,rE fX ?_⟩
   refine wR0 600 [0,5,7,8] fX ?_
   refine wN ?_
   refine qay [506] (by simp[inL]) (by simp[inL,T.cl]) (by simp[qaf,inL,Slot.cl,T.cl,clL]) ?_
   simpa [qaf,inL,qaq] using hQ'
  | cons z zs=>
   have hzb:zs.length+1≤100:=by simp at hdn;omega
   have he:(qaq (z::zs)).length=zs.length+1:=by rw[qai];rfl
   simp only[qod,qoc,List.cons_append,List.length_append,List.length_cons,List.length_nil,Nat.zero_add] at hQ' ⊢
   have fX:=(cJ8 @hd @hw @binS.eq_1 @binS.eq_2 @binS.eq_3 @hsz @qb0 @he)
   refine qaa qkz.eq_1 ?_
   refine W_gc ?_
   refine wR0 300 [0,5,7,8,9] fX ?_
   refine wT @hd ?_
   refine wR0 400 [0,5,6,7,8] fX ?_
   refine wRn 500 [0,5,7,8] fX ?_
   refine rC fX ?_
   refine⟨_,hit,rE fX ?_⟩
   refine wR0 600 [0,5,7,8] fX ?_
   refine wN ?_
   refine qay [506] (by simp[inL]) (by simp[inL,T.cl]) (by simp[qaf,inL,Slot.cl,T.cl,clL,qab]) ?_
   simpa [qaf,inL,qaq] using hQ'
theorem qib (c:UInt8)(n:Nat)(hn:n≤100):TP Tryz.prog 41 [.str ⟨#[c]⟩,.int .i64 (n:Int)] (.list (qaq (nmsS c n))):=by
 have hL:=fun Q a=>qs0 c n hn (nmsS c n) Q a n 0 [] (by omega) rfl (by rw[nmsS,List.range_eq_range'];rfl)
 generalize nmsS c n=R at*
 cases R with
 | nil=>
  simp only[qod,qoc,Int.natCast_zero] at hL
  refine qag fn41 (by simp) ?_
  unfold i41
  simp only[argL]
  refine wR0 0 [0,1] cJ0 ?_
  refine wR0 100 [0,1,5] cJ0 ?_
  refine wR0 200 [0,5,7,8] cJ0 ?_
  refine wL ?_
  refine hL _ ?_
  ·intro j
   refine wN ?_
   refine wR0 700 [4] cJ0 ?_
   refine wP ?_
   exact .nil
 | cons z zs=>
  simp only[qod,qoc,Int.natCast_zero] at hL
  refine qag fn41 (by simp) ?_
  unfold i41
  simp only[argL]
  refine wR0 0 [0,1] cJ0 ?_
  refine wR0 100 [0,1,5] cJ0 ?_
  refine wR0 200 [0,5,7,8] cJ0 ?_
  refine wL ?_
  refine hL _ ?_
  ·intro j
   refine wN ?_
   refine wR0 700 [4] cJ0 ?_
   refine wP ?_
   exact qjn (ty:=9) (z::zs) rfl rfl rfl
end
section
open Go.RowKit
set_option maxHeartbeats 2000000
attribute [local simp] qau qav qaD qaJ qa1 qbo qaB qah qa5 qaI
def mgC (x:Int×Ev):List T:=[.int .i64 x.1,.int .i64 x.2.th,.int .i64 x.2.ln,.int .i64 x.2.num,.int .i64 x.2.val,.int .i64 x.2.nxt]
def qcc (l:List (Int×Ev)):List T:=l.map fun x=>.agg (mgC x)
theorem qdA (l:List (Int×Ev)):(qcc l).length=l.length:=by simp[qcc]
theorem qtv (D:Nat→Bool)(x:Int×Ev):clL D (mgC x)=true:=rfl
theorem qfO (D:Nat→Bool)(l:List (Int×Ev)):clL D (l.flatMap mgC)=true:=by
 induction l with
 | nil=>rfl
 | cons x l ih=>rw[List.flatMap_cons,qab,qtv,ih];rfl
theorem qdz (D:Nat→Bool):∀l,clL D (qcc l)=true
 | []=>rfl
 | x::l=>by have:=qdz D l;simp only[qcc] at this;simp only[qcc,List.map_cons,clL,T.cl,qtv,Bool.true_and];exact this
theorem qgZ (x:Int×Ev):Ones (mgC x):=fun c hc=>by
 simp only[mgC,List.mem_cons,List.not_mem_nil,or_false] at hc
 rcases hc with rfl | rfl | rfl | rfl | rfl | rfl<;>rfl
theorem qpM (l:List (Int×Ev)):(l.flatMap mgC).length=l.length*6:=qch mgC 6 (fun _=>rfl) l
theorem qiw (l:List (Int×Ev))(i:Nat)(h:i<l.length):(qcc l).getD (i:Int).toNat .undef=.agg (mgC (l.getD i (0,default))):=by
 simp[qcc,List.getD_eq_getElem?_getD,h]
theorem qt3 {H:Heap}{id ty n tot:Nat}(l:List (Int×Ev))(hb:H id=.live ⟨ty,l.flatMap mgC⟩)(hn:n=l.length)(ht:tot=l.length*6):Frz H (.sl id tot 6 0 n) (.list (qcc l)):=by
 subst hn ht
 have he:esz 6=6:=rfl
 have hfl:flat (qcc l)=l.flatMap mgC:=qfl mgC 6 (by omega) (fun _=>rfl) _
 refine .sl hb (qpM l) (by rw[he];omega) (by simp[qcc]) (fun x hx=>?_) ?_ fun k hk=>?_
 ·obtain⟨a,_,rfl⟩:=List.mem_map.1 hx
  rfl
 ·rw[hfl]
  intro c hc
  obtain⟨a,_,hc⟩:=List.mem_flatMap.1 hc
  exact qgZ a c hc
 ·rw[hfl,Nat.zero_add]
  exact .same (qbk (qfO _ l) k)
def qd6 (id:Nat)(done:List (Int×Ev)):T:=match done with
 | []=>.nil
 | d::ds=>.sl id ((ds.length+1)*6) 6 0 (ds.length+1)
def qeg (id ty:Nat)(done:List (Int×Ev)):List (Nat×Slot):=match done with
 | []=>[]
 | d::ds=>[(id,.live ⟨ty,(d::ds).flatMap mgC⟩)]
theorem qop {p:Pg}{v:Int}{i:Nat}(hi:i<(plcs p).length):qaY p v (qaN (plcs p).length i)=evL p v ((plcs p).getD i (0,0)).1 ((plcs p).getD i (0,0)).2:=by
 have key:∀j∈List.range' 0 (plcs p).length,stE p v (qaN (plcs p).length i) j=if j=i then evL p v ((plcs p).getD i (0,0)).1 ((plcs p).getD i (0,0)).2 else []:=by
  intro j hj
  have hjl:j<(plcs p).length:=by simpa [List.mem_range'_1] using hj
  unfold stE
  rw[qbO _ _ j hjl]
  by_cases h:j=i
  ·subst h;simp
  ·simp[h]
 rw[qaY,flatMap_congr' key,flatMap_one (fun _=>evL p v ((plcs p).getD i (0,0)).1 ((plcs p).getD i (0,0)).2),if_pos (by omega)]
theorem qie {p:Pg}(hok:okP p=true){v:Int}(hv:0≤v∧v<p.vals)(i:Nat):StOk p 1 v (qaN (plcs p).length i):=by
 refine⟨hv,qaV _ _,fun j=>?_⟩
 by_cases hj:j<(plcs p).length
 ·rw[qbO _ _ j hj];split<;>omega
 ·rw[qdY (by rw[qaV];omega)];omega
abbrev meE (v:Int)(n i:Nat)(vals:Int)(w:Int)(ps one:List T)(done:List (Int×Ev)):List (Nat×T):=[(1,.ref 0 2 0),(3,qd6 1505 done),(4,.list ps),(6,.list one),(7,.int .i64 v),(15,.int .i64 (n:Int)),(16,.int .i64 (i:Int)),(26,.int .i64 vals),(27,.int .i64 w)]
abbrev meH (p:Pg)(done:List (Int×Ev)):List (Nat×Slot):=[(0,.live ⟨28,pgC p⟩),(602,.dead)]++qeg 1505 100 done
set_option maxHeartbeats 8000000 in
theorem quh (p:Pg)(v:Int)(n i:Nat)(vals w:Int)(ps one:List T)(hpc:∀D,clL D ps=true)(hoc:∀D,clL D one=true)(es:List Ev)(hes:es.length≤100)(R:List (Int×Ev))(Q:IExit→(Nat→T)→Heap→Prop)
 (hQ:∀j:Int,Q (.exit 4) (ofL (meE v n i vals w ps one R++[(37,.list (qaG es)),(38,.int .i64 (qaG es).length),(39,.int .i64 j),(40,.bool false)])) (hpL (meH p R))):∀(rest:List Ev) (k:Nat) (done:List (Int×Ev)),es.drop k=rest→k+rest.length=es.length→done.length≤10000+k→done++rest.map (fun e=>(v,e))=R→
 WL Tryz.prog 53 qkE (ofL (meE v n i vals w ps one done++[(37,.list (qaG es)),(38,.int .i64 (qaG es).length),(39,.int .i64 (k:Int))])) (hpL (meH p done)) Q:=by
 simp only[meE,meH,List.cons_append,List.nil_append] at hQ ⊢
 intro rest
 induction rest with
 | nil=>
  intro k done he hk hdl hR
  have hd:decide ((k:Int)<((qaG es).length:Int))=false:=decide_eq_false (by rw[qbA];simp at hk;omega)
  simp only[List.map_nil,List.append_nil] at hR
  subst hR
  have fX:=@hd
  refine qaa qkE.eq_1 ?_
  refine wR0 1300 [1,3,4,6,7,15,16,26,27,37,38,39,40] fX ?_
  refine wF @hd ?_
  refine wX ?_
  refine wN ?_
  exact hQ _
 | cons e rest ih=>
  intro k done he hk hdl hR
  simp only[List.length_cons] at hk
  have hkl:k<es.length:=by omega
  have hlt:(k:Int)<((qaG es).length:Int):=by rw[qbA];omega
  have hd:decide ((k:Int)<((qaG es).length:Int))=true:=decide_eq_true hlt
  have hg:=qb4 es k hkl
  rw[drop_at hkl he] at hg
  have hw:IntKind.wrap .i64 ((k:Int)+1)=((k+1:Nat):Int):=by rw[wrap64 (by omega) (by omega)];rfl
  have hQ':=ih (k+1) (done++[(v,e)]) (by rw[←List.drop_drop,he];rfl) (by omega) (by simp;omega) (by rw[←hR];simp)
  simp only[evC] at hg
  simp only[pgC] at hQ' ⊢
  cases done with
  | nil=>
   simp only[qd6,qeg,List.nil_append,List.append_nil,List.length_nil,List.flatMap_cons,List.flatMap_nil,Nat.zero_add] at hQ' ⊢
   have fX:=(cJ4 @hd @hw @hg @qb0)
   refine qaa qkE.eq_1 ?_
   refine W_gc ?_
   refine wR0 1300 [1,3,4,6,7,15,16,26,27,37,38,39,40] fX ?_
   refine wT @hd ?_
   refine wR0 1400 [1,3,4,6,7,11,15,16,26,27,37,38,39] fX ?_
   refine wR0 1500 [1,3,4,6,7,15,16,26,27,37,38,39] fX ?_
   refine wR0 1600 [1,3,4,6,7,15,16,26,27,37,38,39] fX ?_
   refine wN ?_
   refine qay [0,602,1505] (by simp[inL]) (by simp[inL,T.cl,hpc,hoc]) (by simp[qaf,inL,Slot.cl,T.cl,clL]) ?_
   simpa [qaf,inL,mgC] using hQ'
  | cons z zs=>
   have hsn:∀c:Int×Ev,(z::(zs++[c])).flatMap mgC=(z::zs).flatMap mgC++mgC c:=fun c=>by simp[List.flatMap_append]
   have hm2:(zs.length+1+1)*6=(zs.length+1)*6+6:=by omega
   have hfl:((z::zs).flatMap mgC).length=(zs.length+1)*6:=qpM _
   have hzb:zs.length+1≤100000:=by simp at hdl;omega
   simp only[qd6,qeg,List.cons_append,List.length_append,List.length_cons,List.length_nil,Nat.zero_add,hsn,hm2] at hQ' ⊢
   have fX:=(cJ5 @hd @hw @hg @qb0 @hfl)
   refine qaa qkE.eq_1 ?_
   refine W_gc ?_
   refine wR0 1300 [1,3,4,6,7,15,16,26,27,37,38,39,40] fX ?_
   refine wT @hd ?_
   refine wR0 1400 [1,3,4,6,7,11,15,16,26,27,37,38,39] fX ?_
   refine wR0 1500 [1,3,4,6,7,15,16,26,27,37,38,39] fX ?_
   refine wR0 1600 [1,3,4,6,7,15,16,26,27,37,38,39] fX ?_
   refine wN ?_
   refine qay [0,602,1505] (by simp[inL]) (by simp[inL,T.cl,hpc,hoc]) (by simp[qaf,inL,Slot.cl,T.cl,clL,qab,mgC,qfO]) ?_
   simpa [qaf,inL,mgC] using hQ'
theorem qmT (l:List (Int×Ev)):Ones (l.flatMap mgC):=fun c hc=>by
 obtain⟨a,_,hc⟩:=List.mem_flatMap.1 hc
 exact qgZ a c hc
theorem qn8:∀n,repl n [T.int .i64 0]=qad (List.replicate n 0)
 | 0=>rfl
 | n+1=>by rw[List.replicate_succ,show qad (0::List.replicate n 0)=.int .i64 0::qad (List.replicate n 0) from rfl,←qn8 n];rfl
def evM (p:Pg)(i w:Nat):List (Int×Ev):=(evL p (w:Nat) ((plcs p).getD i (0,0)).1 ((plcs p).getD i (0,0)).2).map fun e=>(((w:Nat):Int),e)
theorem qpa (p:Pg)(i w:Nat):(evM p i w).length≤2:=by rw[evM,List.length_map];exact qji _ _ _ _
theorem qrN (p:Pg)(i a:Nat):∀n,((List.range' a n).flatMap (evM p i)).length≤2*n:=by
 intro n
 induction n generalizing a with
 | zero=>simp
 | succ n ih=>
  have:=ih (a+1)
  have:=qpa p i a
  rw[List.range'_succ,List.flatMap_cons,List.length_append];omega
abbrev mgE (n i:Nat)(vals w:Int)(ps one:List T)(done:List (Int×Ev)):List (Nat×T):=[(1,.ref 0 2 0),(3,qd6 1505 done),(4,.list ps),(6,.list one),(15,.int .i64 (n:Int)),(16,.int .i64 (i:Int)),(26,.int .i64 vals),(27,.int .i64 w)]
set_option maxHeartbeats 8000000 in
theorem qug (p:Pg)(hp:p.fit)(hok:okP p=true)(n i:Nat)(hn:n=(plcs p).length)(hi:i<n)(ps one:List T)(hpc:∀D,clL D ps=true)(hone:one=qad (qaN n i))(B:Nat)(hB:B≤1000)(R:List (Int×Ev))(Q:IExit→(Nat→T)→Heap→Prop)
 (hQ:∀j:Int,Q (.exit 2) (ofL (mgE n i p.vals j ps one R++[(28,.bool false)])) (hpL (meH p R))):∀(f w:Nat) (done:List (Int×Ev)),((w+f:Nat):Int)=p.vals→w+f≤8→done.length≤B+2*w→done++(List.range' w f).flatMap (evM p i)=R→
 WL Tryz.prog 53 qhF (ofL (mgE n i p.vals w ps one done)) (hpL (meH p done)) Q:=by
 have hoc:∀D,clL D one=true:=fun D=>by rw[hone];exact qah D _
 simp only[mgE,meH,List.cons_append,List.nil_append] at hQ ⊢
 intro f
 induction f with
 | zero=>
  intro w done hf h8 hdl hR
  have hd:decide ((w:Int)<p.vals)=false:=decide_eq_false (by omega)
  simp only[List.range'_zero,List.flatMap_nil,List.append_nil] at hR
  subst hR
  have fX:=@hd
  refine qaa qhF.eq_1 ?_
  refine wR0 900 [1,3,4,6,15,16,26,27,28] fX ?_
  refine wF @hd ?_
  refine wX ?_
  refine wN ?_
  exact hQ _
 | succ f ih=>
  intro w done hf h8 hdl hR
  have hd:decide ((w:Int)<p.vals)=true:=decide_eq_true (by omega)
  have hw:IntKind.wrap .i64 ((w:Int)+1)=((w+1:Nat):Int):=by rw[wrap64 (by omega) (by omega)];rfl
  have hu:=qie hok (v:=(w:Int)) ⟨by omega,by omega⟩ i
  have hr:=hu.rgt hok (by omega)
  have hst:=qfS p hp w (qaN (plcs p).length i) (by rw[qaV,qbh];have:=(qbq hok).six;omega)
  rw[qec,qeb,if_pos hr,qop (by omega)] at hst
  have hel:=qpa p i w
  have hQ':=ih (w+1) (done++evM p i w) (by omega) (by omega) (by rw[List.length_append];omega) (by rw[←hR,List.range'_succ,List.flatMap_cons,List.append_assoc])
  rw[evM] at hQ' hel
  rw[List.length_map] at hel
  rw[←hn,←hone] at hst
  clear hu hr hR
  generalize evL p (w:Nat) ((plcs p).getD i (0,0)).1 ((plcs p).getD i (0,0)).2=es at*
  have hL:=fun Q a=>quh p w n i p.vals w ps one hpc hoc es (by omega) (done++es.map (fun e=>((w:Int),e))) Q a es 0 done rfl (by omega) (by omega) rfl
  generalize done++es.map (fun e=>((w:Int),e))=D at*
  clear hone
  simp only[meE,meH,qar,pgC,List.cons_append,List.nil_append,Int.natCast_zero] at hL hst hQ' ⊢
  cases D with
  | nil=>
   simp only[qd6,qeg] at hL hQ' ⊢
   cases done with
   | nil=>
    simp only at hL hQ' ⊢
    have fX:=(cJ2 @hd @hw)
    refine qaa qhF.eq_1 ?_
    refine wR0 900 [1,3,4,6,15,16,26,27,28] fX ?_
    refine wT @hd ?_
    refine wR0 1000 [1,3,4,6,7,15,16,26,27] fX ?_
    refine wRn 1100 [1,3,4,6,7,8,15,16,26,27] fX ?_
    refine rC fX ?_
    refine⟨_,hst,rE fX ?_⟩
    refine wR0 1200 [1,3,4,6,7,15,16,26,27,37,38,39] fX ?_
    refine wL ?_
    refine hL _ ?_
    ·intro j
     refine wN ?_
     refine wR0 1700 [1,3,4,6,15,16,26,27] fX ?_
     refine wN ?_
     exact hQ'
   | cons z zs=>
    simp only at hL hQ' ⊢
    have fX:=(cJ2 @hd @hw)
    refine qaa qhF.eq_1 ?_
    refine wR0 900 [1,3,4,6,15,16,26,27,28] fX ?_
    refine wT @hd ?_
    refine wR0 1000 [1,3,4,6,7,15,16,26,27] fX ?_
    refine wRn 1100 [1,3,4,6,7,8,15,16,26,27] fX ?_
    refine rC fX ?_
    refine⟨_,hst,rE fX ?_⟩
    refine wR0 1200 [1,3,4,6,7,15,16,26,27,37,38,39] fX ?_
    refine wL ?_
    refine hL _ ?_
    ·intro j
     refine wN ?_
     refine wR0 1700 [1,3,4,6,15,16,26,27] fX ?_
     refine wN ?_
     exact hQ'
  | cons y ys=>
   simp only[qd6,qeg] at hL hQ' ⊢
   cases done with
   | nil=>
    simp only at hL hQ' ⊢
    have fX:=(cJ2 @hd @hw)
    refine qaa qhF.eq_1 ?_
    refine wR0 900 [1,3,4,6,15,16,26,27,28] fX ?_
    refine wT @hd ?_
    refine wR0 1000 [1,3,4,6,7,15,16,26,27] fX ?_
    refine wRn 1100 [1,3,4,6,7,8,15,16,26,27] fX ?_
    refine rC fX ?_
    refine⟨_,hst,rE fX ?_⟩
    refine wR0 1200 [1,3,4,6,7,15,16,26,27,37,38,39] fX ?_
    refine wL ?_
    refine hL _ ?_
    ·intro j
     refine wN ?_
     refine wR0 1700 [1,3,4,6,15,16,26,27] fX ?_
     refine wN ?_
     exact hQ'
   | cons z zs=>
    simp only at hL hQ' ⊢
    have fX:=(cJ2 @hd @hw)
    refine qaa qhF.eq_1 ?_
    refine wR0 900 [1,3,4,6,15,16,26,27,28] fX ?_
    refine wT @hd ?_
    refine wR0 1000 [1,3,4,6,7,15,16,26,27] fX ?_
    refine wRn 1100 [1,3,4,6,7,8,15,16,26,27] fX ?_
    refine rC fX ?_
    refine⟨_,hst,rE fX ?_⟩
    refine wR0 1200 [1,3,4,6,7,15,16,26,27,37,38,39] fX ?_
    refine wL ?_
    refine hL _ ?_
    ·intro j
     refine wN ?_
     refine wR0 1700 [1,3,4,6,15,16,26,27] fX ?_
     refine wN ?_
     exact hQ'
abbrev mfE (n:Nat)(i:Int)(ps:List T)(done:List (Int×Ev)):List (Nat×T):=[(1,.ref 0 2 0),(3,qd6 1505 done),(4,.list ps),(15,.int .i64 (n:Int)),(16,.int .i64 i)]
abbrev mfH (p:Pg)(done:List (Int×Ev)):List (Nat×Slot):=[(0,.live ⟨28,pgC p⟩)]++qeg 1505 100 done
set_option maxHeartbeats 8000000 in
theorem quf (p:Pg)(hp:p.fit)(hok:okP p=true)(n:Nat)(hn:n=(plcs p).length)(ps:List T)(hpl:ps.length=n)(hpc:∀D,clL D ps=true)(R:List (Int×Ev))(Q:IExit→(Nat→T)→Heap→Prop)
 (hQ:∀j:Int,Q (.exit 0) (ofL (mfE n j ps R++[(17,.bool false)])) (hpL (mfH p R))):∀(f i:Nat) (done:List (Int×Ev)),i+f=n→done.length≤16*i→done++(List.range' i f).flatMap (fun i=>(List.range' 0 p.vals.toNat).flatMap (evM p i))=R→
 WL Tryz.prog 53 qhE (ofL (mfE n i ps done)) (hpL (mfH p done)) Q:=by
 have h6:n≤6:=by rw[hn,qbh];exact (qbq hok).six
 have hv:=(qbq hok).vals
 simp only[mfE,mfH,List.cons_append,List.nil_append] at hQ ⊢
 intro f
 induction f with
 | zero=>
  intro i done hf hdl hR
  have hd:decide ((i:Int)<(n:Int))=false:=decide_eq_false (by omega)
  simp only[List.range'_zero,List.flatMap_nil,List.append_nil] at hR
  subst hR
  have fX:=@hd
  refine qaa qhE.eq_1 ?_
  refine wR0 400 [1,3,4,15,16,17] fX ?_
  refine wF @hd ?_
  refine wX ?_
  refine wN ?_
  exact hQ _
 | succ f ih=>
  intro i done hf hdl hR
  have hd:decide ((i:Int)<(n:Int))=true:=decide_eq_true (by omega)
  have hltI:(i:Int)<(n:Int):=by omega
  have hw:IntKind.wrap .i64 ((i:Int)+1)=((i+1:Nat):Int):=by rw[wrap64 (by omega) (by omega)];rfl
  have hel:=qrN p i 0 p.vals.toNat
  have hQ':=ih (i+1) (done++(List.range' 0 p.vals.toNat).flatMap (evM p i)) (by omega) (by rw[List.length_append];omega) (by rw[←hR,List.range'_succ,List.flatMap_cons,List.append_assoc])
  have hL:=fun Q a=>qug p hp hok n i hn (by omega) ps (qad (qaN n i)) hpc rfl (16*i) (by omega) (done++(List.range' 0 p.vals.toNat).flatMap (evM p i)) Q a p.vals.toNat 0 done (by omega) (by omega) (by omega) rfl
  clear hel hR
  have hrp:repl n [T.int .i64 0]=qad (List.replicate n 0):=qn8 n
  have hj1:(i:Int).toNat*1=i:=by simp
  have hnn:(n:Int).toNat=n:=by simp
  have hel:(qad (List.replicate n 0)).length=n:=by rw[qae,List.length_replicate]
  have hsw:=qi0 (List.replicate n 0) 1 i (by rw[List.length_replicate];omega)
  have hlu:n=(qaN n i).length:=(qaV n i).symm
  have hun:(List.replicate n (0:Int)).set i 1=qaN n i:=rfl
  rw[hun] at hsw
  generalize done++(List.range' 0 p.vals.toNat).flatMap (evM p i)=D at*
  simp only[mgE,meH,pgC,List.cons_append,List.nil_append,Int.natCast_zero] at hL hQ' ⊢
  cases D with
  | nil=>
   simp only[qd6,qeg] at hL hQ' ⊢
   cases done with
   | nil=>
    simp only at hL hQ' ⊢
    have fX:=(cJ8 @hd @hw @hpl @hrp @hsw @hel @hj1 @hnn)
    refine qaa qhE.eq_1 ?_
    refine W_gc ?_
    refine wR0 400 [1,3,4,15,16,17] fX ?_
    refine wT @hd ?_
    refine wR0 500 [1,3,4,5,15,16] fX ?_
    refine wR0 600 [1,3,4,5,6,15,16] fX ?_
    refine wR0 700 [1,3,4,6,15,16] fX ?_
    simp only[thn]
    skip
    refine qbZ (l':=[(1,.ref 0 2 0),(3,.nil),(4,.list ps),(6,.list (qad (qaN n i))),(15,.int .i64 (n:Int)),(16,.int .i64 (i:Int))]) (hl':=[(0,.live ⟨28,pgC p⟩),(602,.dead)]) [0,1505] (.cons (.same rfl) (.cons (.same rfl) (.cons (.same (hpc _)) (.cons (qcR _ rfl rfl hlu hlu) (.cons (.same rfl) (.cons (.same rfl) .nil)))))) (.keep rfl (.liveS (qaD _ p) (qa3 p)) (.dead rfl (fun h=>by cases h) .nil)) ?_
    simp only[pgC]
    refine wR0 800 [1,3,4,6,15,16,26,27] fX ?_
    refine wL ?_
    refine hL _ ?_
    ·intro j
     refine wN ?_
     refine wR0 1800 [1,3,4,15,16] fX ?_
     refine wN ?_
     refine qay [0,1505] (by simp[inL]) (by simp[inL,T.cl,hpc]) (by simp[qaf,inL,Slot.cl,T.cl,clL]) ?_
     simpa [qaf,inL,mgC] using hQ'
   | cons z zs=>
    simp only at hL hQ' ⊢
    have fX:=(cJ8 @hd @hw @hpl @hrp @hsw @hel @hj1 @hnn)
    refine qaa qhE.eq_1 ?_
    refine W_gc ?_
    refine wR0 400 [1,3,4,15,16,17] fX ?_
    refine wT @hd ?_
    refine wR0 500 [1,3,4,5,15,16] fX ?_
    refine wR0 600 [1,3,4,5,6,15,16] fX ?_
    refine wR0 700 [1,3,4,6,15,16] fX ?_
    simp only[thn]
    rw[qiG (j:=1505) (k:=602) (by omega)]
    refine qbZ (l':=[(1,.ref 0 2 0),(3,.sl 1505 ((zs.length+1)*6) 6 0 (zs.length+1)),(4,.list ps),(6,.list (qad (qaN n i))),(15,.int .i64 (n:Int)),(16,.int .i64 (i:Int))]) (hl':=[(0,.live ⟨28,pgC p⟩),(602,.dead),(1505,.live ⟨100,(z::zs).flatMap mgC⟩)]) [0,1505] (.cons (.same rfl) (.cons (.same rfl) (.cons (.same (hpc _)) (.cons (qcR _ rfl rfl hlu hlu) (.cons (.same rfl) (.cons (.same rfl) .nil)))))) (.keep rfl (.liveS (qaD _ p) (qa3 p)) (.dead rfl (fun h=>by cases h) (.keep rfl (.liveS (qfO _ _) (qmT _)) .nil))) ?_
    simp only[pgC]
    refine wR0 800 [1,3,4,6,15,16,26,27] fX ?_
    refine wL ?_
    refine hL _ ?_
    ·intro j
     refine wN ?_
     refine wR0 1800 [1,3,4,15,16] fX ?_
     refine wN ?_
     refine qay [0,1505] (by simp[inL]) (by simp[inL,T.cl,hpc]) (by simp[qaf,inL,Slot.cl,T.cl,clL]) ?_
     simpa [qaf,inL,mgC] using hQ'
  | cons y ys=>
   simp only[qd6,qeg] at hL hQ' ⊢
   cases done with
   | nil=>
    simp only at hL hQ' ⊢
    have fX:=(cJ8 @hd @hw @hpl @hrp @hsw @hel @hj1 @hnn)
    refine qaa qhE.eq_1 ?_
    refine W_gc ?_
    refine wR0 400 [1,3,4,15,16,17] fX ?_
    refine wT @hd ?_
    refine wR0 500 [1,3,4,5,15,16] fX ?_
    refine wR0 600 [1,3,4,5,6,15,16] fX ?_
    refine wR0 700 [1,3,4,6,15,16] fX ?_
    simp only[thn]
    skip
    refine qbZ (l':=[(1,.ref 0 2 0),(3,.nil),(4,.list ps),(6,.list (qad (qaN n i))),(15,.int .i64 (n:Int)),(16,.int .i64 (i:Int))]) (hl':=[(0,.live ⟨28,pgC p⟩),(602,.dead)]) [0,1505] (.cons (.same rfl) (.cons (.same rfl) (.cons (.same (hpc _)) (.cons (qcR _ rfl rfl hlu hlu) (.cons (.same rfl) (.cons (.same rfl) .nil)))))) (.keep rfl (.liveS (qaD _ p) (qa3 p)) (.dead rfl (fun h=>by cases h) .nil)) ?_
    simp only[pgC]
    refine wR0 800 [1,3,4,6,15,16,26,27] fX ?_
    refine wL ?_
    refine hL _ ?_
    ·intro j
     refine wN ?_
     refine wR0 1800 [1,3,4,15,16] fX ?_
     refine wN ?_
     refine qay [0,1505] (by simp[inL]) (by simp[inL,T.cl,hpc]) (by simp[qaf,inL,Slot.cl,T.cl,clL,mgC,qfO]) ?_
     simpa [qaf,inL,mgC] using hQ'
   | cons z zs=>
    simp only at hL hQ' ⊢
    have fX:=(cJ8 @hd @hw @hpl @hrp @hsw @hel @hj1 @hnn)
    refine qaa qhE.eq_1 ?_
    refine W_gc ?_
    refine wR0 400 [1,3,4,15,16,17] fX ?_
    refine wT @hd ?_
    refine wR0 500 [1,3,4,5,15,16] fX ?_
    refine wR0 600 [1,3,4,5,6,15,16] fX ?_
    refine wR0 700 [1,3,4,6,15,16] fX ?_
    simp only[thn]
    rw[qiG (j:=1505) (k:=602) (by omega)]
    refine qbZ (l':=[(1,.ref 0 2 0),(3,.sl 1505 ((zs.length+1)*6) 6 0 (zs.length+1)),(4,.list ps),(6,.list (qad (qaN n i))),(15,.int .i64 (n:Int)),(16,.int .i64 (i:Int))]) (hl':=[(0,.live ⟨28,pgC p⟩),(602,.dead),(1505,.live ⟨100,(z::zs).flatMap mgC⟩)]) [0,1505] (.cons (.same rfl) (.cons (.same rfl) (.cons (.same (hpc _)) (.cons (qcR _ rfl rfl hlu hlu) (.cons (.same rfl) (.cons (.same rfl) .nil)))))) (.keep rfl (.liveS (qaD _ p) (qa3 p)) (.dead rfl (fun h=>by cases h) (.keep rfl (.liveS (qfO _ _) (qmT _)) .nil))) ?_
    simp only[pgC]
    refine wR0 800 [1,3,4,6,15,16,26,27] fX ?_
    refine wL ?_
    refine hL _ ?_
    ·intro j
     refine wN ?_
     refine wR0 1800 [1,3,4,15,16] fX ?_
     refine wN ?_
     refine qay [0,1505] (by simp[inL]) (by simp[inL,T.cl,hpc]) (by simp[qaf,inL,Slot.cl,T.cl,clL,mgC,qfO]) ?_
     simpa [qaf,inL,mgC] using hQ'
set_option maxHeartbeats 8000000 in
theorem qlC (p:Pg)(hp:p.fit)(hok:okP p=true):TP Tryz.prog 73 [qar p] (.list (qcc (mngs p))):=by
 have hpp:=qc0 p hp
 have hpl:(qbe (plP p)).length=(plcs p).length:=by rw[qa0,qbV hok]
 have hL:=fun Q a=>quf p hp hok (plcs p).length rfl (qbe (plP p)) hpl (fun D=>qaI D _) (mngs p) Q a (plcs p).length 0 [] (by omega) (by simp) rfl
 generalize mngs p=R at*
 generalize (plcs p).length=n at*
 simp only[mfE,mfH,qar,pgC,List.cons_append,List.nil_append,Int.natCast_zero] at hL hpp ⊢
 cases R with
 | nil=>
  simp only[qd6,qeg] at hL
  have fX:=@hpl
  refine qag fn73 (by simp) ?_
  unfold i73
  simp only[argL]
  refine wR0 0 [1] fX ?_
  refine wR0 100 [1,3] fX ?_
  refine wRn 200 [1,3,4] fX ?_
  refine rC fX ?_
  refine⟨_,hpp,rE fX ?_⟩
  refine wR0 300 [1,3,4,15,16] fX ?_
  refine wL ?_
  refine hL _ ?_
  ·intro j
   refine wN ?_
   refine wR0 1900 [2] fX ?_
   refine wP ?_
   exact .nil
 | cons z zs=>
  simp only[qd6,qeg] at hL
  have fX:=@hpl
  refine qag fn73 (by simp) ?_
  unfold i73
  simp only[argL]
  refine wR0 0 [1] fX ?_
  refine wR0 100 [1,3] fX ?_
  refine wRn 200 [1,3,4] fX ?_
  refine rC fX ?_
  refine⟨_,hpp,rE fX ?_⟩
  refine wR0 300 [1,3,4,15,16] fX ?_
  refine wL ?_
  refine hL _ ?_
  ·intro j
   refine wN ?_
   refine wR0 1900 [2] fX ?_
   refine wP ?_
   exact qt3 (z::zs) rfl rfl rfl
def ofT (p:Pg):T:=if okP p=true then (if (mngs p).length≤12 then .tup [.list (qcc (mngs p)),.int .i64 0] else .tup [.list [],.int .i64 1]) else .tup [.list [],.int .i64 47]
set_option maxHeartbeats 4000000 in
theorem qny (p:Pg)(hp:p.fit):TP Tryz.prog 38 [qar p] (ofT p):=by
 have hck:=qfR p hp
 rw[ckPg] at hck
 unfold ofT
 by_cases hok:okP p=true
 ·rw[if_pos hok] at hck ⊢
  have hm:=qlC p hp hok
  have hz:((0:Int) != 0)=false:=rfl
  have hml:=qdA (mngs p)
  simp only[qar,pgC] at hck hm ⊢
  by_cases hl:(mngs p).length≤12
  ·rw[if_pos hl]
   have hd:decide (((qcc (mngs p)).length:Int) > 12)=false:=decide_eq_false (by omega)
   have fX:=(cJ2 @hz @hd)
   refine qag fn38 (by simp) ?_
   unfold i38
   simp only[argL]
   refine wR0 0 [1] fX ?_
   refine wRn 100 [1,4] fX ?_
   refine rC fX ?_
   refine⟨_,hck,rE fX ?_⟩
   refine wR0 200 [1,4,9] fX ?_
   refine wF @hz ?_
   refine wRn 400 [5] fX ?_
   refine rC fX ?_
   refine⟨_,hm,rE fX ?_⟩
   refine wR0 500 [5,15] fX ?_
   refine wF @hd ?_
   refine wR0 700 [2,3] fX ?_
   refine wP ?_
   exact qaK (.same (qdz _ _)) (.same rfl)
  ·rw[if_neg hl]
   have hd:decide (((qcc (mngs p)).length:Int) > 12)=true:=decide_eq_true (by omega)
   have fX:=(cJ2 @hz @hd)
   refine qag fn38 (by simp) ?_
   unfold i38
   simp only[argL]
   refine wR0 0 [1] fX ?_
   refine wRn 100 [1,4] fX ?_
   refine rC fX ?_
   refine⟨_,hck,rE fX ?_⟩
   refine wR0 200 [1,4,9] fX ?_
   refine wF @hz ?_
   refine wRn 400 [5] fX ?_
   refine rC fX ?_
   refine⟨_,hm,rE fX ?_⟩
   refine wR0 500 [5,15] fX ?_
   refine wT @hd ?_
   refine wR0 600 [2,3] fX ?_
   refine wP ?_
   exact qaK .nil (.same rfl)
 ·rw[if_neg hok] at hck ⊢
  have hz:((47:Int) != 0)=true:=rfl
  simp only[qar,pgC] at hck ⊢
  have fX:=@hz
  refine qag fn38 (by simp) ?_
  unfold i38
  simp only[argL]
  refine wR0 0 [1] fX ?_
  refine wRn 100 [1,4] fX ?_
  refine rC fX ?_
  refine⟨_,hck,rE fX ?_⟩
  refine wR0 200 [1,4,9] fX ?_
  refine wT @hz ?_
  refine wR0 300 [2,3] fX ?_
  refine wP ?_
  exact qaK .nil (.same rfl)
end
end Go.Proofs.YtkbjpglehdhjfaaGreatDoor
