/- Contracts of functions of the program, for all arguments that they name. -/
import Derived.Test.YtkbjpglehdhjfaaGreatDoorK20
namespace Go.Proofs.YtkbjpglehdhjfaaGreatDoor
set_option linter.unusedVariables false
section
open Go.RowKit
set_option maxHeartbeats 2000000
attribute [local simp] qau qav qaD qaJ qa1 qbo qaB qah qa5 qaI qak qb2 qeV
def qfs (id:Nat)(done:List V):T:=match done with
 | []=>.nil
 | d::ds=>.sl id ((ds.length+1)*2) 2 0 (ds.length+1)
def qfr (id:Nat)(done:List V):List (Nat×Slot):=match done with
 | []=>[]
 | d::ds=>[(id,.live ⟨35,qcv (d::ds)⟩)]
abbrev tvE (ps:List T)(n i:Nat)(vals w:Int)(done:List V):List (Nat×T):=[(1,.ref 0 2 0),(6,qfs 1505 done),(7,.list ps),(8,.int .i64 (i:Int)),(22,.list ps),(23,.int .i64 (n:Int)),(24,.int .i64 (i:Int)),(43,.int .i64 vals),(44,.int .i64 w)]
abbrev tvH (p:Pg)(pc:List T)(done:List V):List (Nat×Slot):=[(0,.live ⟨28,pgC p⟩),(803,.live ⟨102,pc⟩)]++qfr 1505 done
theorem qmp (v:Int)(c:List Int):qcv [cfV v c]=[.int .i64 0,.list (encV (natV v)::qaj (c.map natV))]:=rfl
set_option maxHeartbeats 16000000 in
theorem quT (p:Pg)(pc:List T)(hpk:∀D,clL D pc=true)(hpo:Ones pc)(n i:Nat)(hi:i<n)(h6:n≤6)(ps:List T)(hpl:ps.length=n)(hpc:∀D,clL D ps=true)(B:Nat)(hB:B≤1000)(R:List V)(Q:IExit→(Nat→T)→Heap→Prop)
 (hQ:∀j:Int,Q (.exit 2) (ofL (tvE ps n i p.vals j R++[(45,.bool false)])) (hpL (tvH p pc R))):∀(f w:Nat) (done:List V),((w+f:Nat):Int)=p.vals→w+f≤8→done.length≤B+w→done++(List.range' w f).map (fun v=>cfV ((v:Nat):Int) (qaN n i))=R→
 WL Tryz.prog 64 qkv (ofL (tvE ps n i p.vals w done)) (hpL (tvH p pc done)) Q:=by
 simp only[tvE,tvH,List.cons_append,List.nil_append] at hQ ⊢
 intro f
 induction f with
 | zero=>
  intro w done hf h8 hdl hR
  have hd:decide ((w:Int)<p.vals)=false:=decide_eq_false (by omega)
  simp only[List.range'_zero,List.map_nil,List.append_nil] at hR
  subst hR
  have fX:=@hd
  refine qaa qkv.eq_1 ?_
  refine wR0 1100 [1,6,7,8,22,23,24,43,44,45] fX ?_
  refine wF @hd ?_
  refine wX ?_
  refine wN ?_
  exact hQ _
 | succ f ih=>
  intro w done hf h8 hdl hR
  have hd:decide ((w:Int)<p.vals)=true:=decide_eq_true (by omega)
  have hw:IntKind.wrap .i64 ((w:Int)+1)=((w+1:Nat):Int):=by rw[wrap64 (by omega) (by omega)];rfl
  have hQ':=ih (w+1) (done++[cfV ((w:Nat):Int) (qaN n i)]) (by omega) (by omega) (by simp;omega) (by rw[←hR,List.range'_succ,List.map_cons];simp)
  have hcf:=qgl (w:Int) (qaN n i) (by rw[qaV];omega)
  rw[qbv] at hcf
  have hj1:(i:Int).toNat*1=i:=by simp
  have hnn:(n:Int).toNat=n:=by simp
  have hrp:repl n [T.int .i64 0]=qad (List.replicate n 0):=qn8 n
  have hel:(qad (List.replicate n 0)).length=n:=by rw[qae,List.length_replicate]
  have hsw:=qi0 (List.replicate n 0) 1 i (by rw[List.length_replicate];exact hi)
  have hlu:n=(qaN n i).length:=(qaV n i).symm
  have hun:(List.replicate n (0:Int)).set i 1=qaN n i:=rfl
  have hjn:(i:Int)<(n:Int):=by omega
  rw[hun] at hsw
  simp only[pgC] at hQ' ⊢
  cases done with
  | nil=>
   simp only[qfs,qfr,List.nil_append,List.length_nil,qmp,Nat.zero_add] at hQ' ⊢
   have fX:=(cJ8 @hd @hw @hpl @hrp @hnn @hj1 @hel (cJ2 @hsw @qb0))
   refine qaa qkv.eq_1 ?_
   refine W_gc ?_
   refine wR0 1100 [1,6,7,8,22,23,24,43,44,45] fX ?_
   refine wT @hd ?_
   refine wR0 1200 [1,6,7,8,10,22,23,24,43,44] fX ?_
   refine wR0 1300 [1,6,7,8,10,11,22,23,24,43,44] fX ?_
   refine wR0 1400 [1,6,7,8,10,11,22,23,24,43,44] fX ?_
   simp only[thn]
   skip
   refine qbZ (l':=[(1,.ref 0 2 0),(6,.nil),(7,.list ps),(8,.int .i64 (i:Int)),(10,.int .i64 (w:Int)),(11,.list (qad (qaN n i))),(22,.list ps),(23,.int .i64 (n:Int)),(24,.int .i64 (i:Int)),(43,.int .i64 p.vals),(44,.int .i64 (w:Int))]) (hl':=[(0,.live ⟨28,_⟩),(803,.live ⟨102,pc⟩),(1302,.dead)]) [0,803,1505] (.cons (.same rfl) (.cons (.same rfl) (.cons (.same (hpc _)) (.cons (.same rfl) (.cons (.same rfl) (.cons (qcR _ rfl rfl hlu hlu) (.cons (.same (hpc _)) (.cons (.same rfl) (.cons (.same rfl) (.cons (.same rfl) (.cons (.same rfl) .nil))))))))))) (.keep rfl (.liveS (qaD _ p) (qa3 p)) (.keep rfl (.liveS (hpk _) hpo) (.dead rfl (fun h=>by cases h) .nil))) ?_
   refine wRn 1500 [1,6,7,8,22,23,24,43,44] fX ?_
   refine rC fX ?_
   refine⟨_,hcf,rE fX ?_⟩
   refine wR0 1600 [1,6,7,8,22,23,24,43,44] fX ?_
   refine wN ?_
   refine qay [0,803,1505] (by simp[inL]) (by simp[inL,T.cl,hpc]) (by simp[qaf,inL,Slot.cl,T.cl,clL,hpk]) ?_
   simpa [qaf,inL] using hQ'
  | cons z zs=>
   have hsn:∀c:V,qcv (z::(zs++[c]))=qcv (z::zs)++qcv [c]:=fun c=>by rw[←List.cons_append,qkr]
   have hm2:(zs.length+1+1)*2=(zs.length+1)*2+2:=by omega
   have hfl:(qcv (z::zs)).length=(zs.length+1)*2:=qhs _
   have hzb:zs.length+1≤100000:=by simp at hdl;omega
   simp only[qfs,qfr,List.cons_append,List.length_append,List.length_cons,List.length_nil,Nat.zero_add,hsn,hm2,qmp] at hQ' ⊢
   have fX:=(cJ8 @hd @hw @hpl @hrp @hnn @hj1 @hel (cJ3 @hsw @qb0 @hfl))
   refine qaa qkv.eq_1 ?_
   refine W_gc ?_
   refine wR0 1100 [1,6,7,8,22,23,24,43,44,45] fX ?_
   refine wT @hd ?_
   refine wR0 1200 [1,6,7,8,10,22,23,24,43,44] fX ?_
   refine wR0 1300 [1,6,7,8,10,11,22,23,24,43,44] fX ?_
   refine wR0 1400 [1,6,7,8,10,11,22,23,24,43,44] fX ?_
   simp only[thn]
   skip
   refine qbZ (l':=[(1,.ref 0 2 0),(6,.sl 1505 ((zs.length+1)*2) 2 0 (zs.length+1)),(7,.list ps),(8,.int .i64 (i:Int)),(10,.int .i64 (w:Int)),(11,.list (qad (qaN n i))),(22,.list ps),(23,.int .i64 (n:Int)),(24,.int .i64 (i:Int)),(43,.int .i64 p.vals),(44,.int .i64 (w:Int))]) (hl':=[(0,.live ⟨28,_⟩),(803,.live ⟨102,pc⟩),(1505,.live ⟨35,qcv (z::zs)⟩),(1302,.dead)]) [0,803,1505] (.cons (.same rfl) (.cons (.same rfl) (.cons (.same (hpc _)) (.cons (.same rfl) (.cons (.same rfl) (.cons (qcR _ rfl rfl hlu hlu) (.cons (.same (hpc _)) (.cons (.same rfl) (.cons (.same rfl) (.cons (.same rfl) (.cons (.same rfl) .nil))))))))))) (.keep rfl (.liveS (qaD _ p) (qa3 p)) (.keep rfl (.liveS (hpk _) hpo) (.keep rfl (.liveS (qeV _ _) (qeW _)) (.dead rfl (fun h=>by cases h) .nil)))) ?_
   refine wRn 1500 [1,6,7,8,22,23,24,43,44] fX ?_
   refine rC fX ?_
   refine⟨_,hcf,rE fX ?_⟩
   refine wR0 1600 [1,6,7,8,22,23,24,43,44] fX ?_
   refine wN ?_
   refine qay [0,803,1505] (by simp[inL]) (by simp[inL,T.cl,hpc]) (by simp[qaf,inL,Slot.cl,T.cl,clL,qab,hpk]) ?_
   simpa [qaf,inL] using hQ'
abbrev tuE (ps:List T)(n:Nat)(i:Int)(done:List V):List (Nat×T):=[(1,.ref 0 2 0),(6,qfs 1505 done),(7,.list ps),(22,.list ps),(23,.int .i64 (n:Int)),(24,.int .i64 i)]
abbrev tuH (p:Pg)(done:List V):List (Nat×Slot):=[(0,.live ⟨28,pgC p⟩)]++qfr 1505 done
set_option maxHeartbeats 16000000 in
theorem quS (p:Pg)(hp:p.fit)(hok:okP p=true)(n:Nat)(hn:n=(plcs p).length)(ps:List T)(hps:ps=qbe (plP p))(R:List V)(Q:IExit→(Nat→T)→Heap→Prop)
 (hQ:∀j:Int,Q (.exit 0) (ofL (tuE ps n j R++[(25,.bool false)])) (hpL (tuH p R))):∀(f i:Nat) (done:List V),i+f=n→done.length≤8*i→done++((List.range' i f).filter (isF p)).flatMap (fun i=>(List.range' 0 p.vals.toNat).map fun v=>cfV ((v:Nat):Int) (qaN n i))=R→
 WL Tryz.prog 64 qfI (ofL (tuE ps n i done)) (hpL (tuH p done)) Q:=by
 have ho:=qbq hok
 have h6:n≤6:=by rw[hn,qbh];exact ho.six
 have hv:=ho.vals
 have hpc:∀D,clL D ps=true:=fun D=>by rw[hps];exact qaI D _
 have hpl:ps.length=n:=by rw[hps,qa0,qbV hok,hn]
 simp only[tuE,tuH,List.cons_append,List.nil_append] at hQ ⊢
 intro f
 induction f with
 | zero=>
  intro i done hf hdl hR
  have hd:decide ((i:Int)<(n:Int))=false:=decide_eq_false (by omega)
  simp only[List.range'_zero,List.filter_nil,List.flatMap_nil,List.append_nil] at hR
  subst hR
  have fX:=@hd
  refine qaa qfI.eq_1 ?_
  refine wR0 700 [1,6,7,22,23,24,25] fX ?_
  refine wF @hd ?_
  refine wX ?_
  refine wN ?_
  exact hQ _
 | succ f ih=>
  intro i done hf hdl hR
  have hil:i<(plcs p).length:=by omega
  have hd:decide ((i:Int)<(n:Int))=true:=decide_eq_true (by omega)
  have hltI:(i:Int)<(n:Int):=by omega
  have hw:IntKind.wrap .i64 ((i:Int)+1)=((i+1:Nat):Int):=by rw[wrap64 (by omega) (by omega)];rfl
  have hg:=qjZ hok i hil
  rw[←hps] at hg
  have hpi:=qcJ hil
  have hH:=qeo hp hpi
  have z0:Int.toNat 0*1=0:=rfl
  have z1:Int.toNat 1*1=1:=rfl
  have hF:isF p i=(((p.ths.getD ((plcs p).getD i (0,0)).1 default).lines.getD ((plcs p).getD i (0,0)).2 default).k==7):=rfl
  have hlt1:=hH.h1
  have hlt2:=hH.h2
  have hg1:=hH.g1
  have hg2:=hH.g2
  clear hH
  rw[List.range'_succ] at hR
  generalize ((plcs p).getD i (0,0)).1=pi at*
  generalize ((plcs p).getD i (0,0)).2=pk at*
  generalize p.ths.getD pi default=t at*
  generalize t.lines.getD pk default=ln at*
  obtain⟨kk,a,num⟩:=ln
  simp only[thC,lnC,encP] at hg hg1 hg2 hF
  by_cases h7:kk=7
  ·have hk7:(kk != 7)=false:=by simp[h7]
   have hFt:isF p i=true:=by rw[hF,h7];rfl
   rw[List.filter_cons_of_pos hFt,List.flatMap_cons] at hR
   have hQ':=ih (i+1) (done++(List.range' 0 p.vals.toNat).map fun v=>cfV ((v:Nat):Int) (qaN n i)) (by omega) (by simp;omega) (by rw[←hR,List.append_assoc])
   have hL:=fun Q a=>quT p [T.int .i64 (pi:Int),.int .i64 (pk:Int)] (fun D=>rfl) (qbD _ _) n i (by omega) h6 ps hpl hpc (8*i) (by omega) (done++(List.range' 0 p.vals.toNat).map fun v=>cfV ((v:Nat):Int) (qaN n i)) Q a p.vals.toNat 0 done (by omega) (by omega) (by omega) rfl
   clear hR hF hFt
   generalize (done++(List.range' 0 p.vals.toNat).map fun v=>cfV ((v:Nat):Int) (qaN n i))=D at*
   simp only[tvE,tvH,pgC,List.cons_append,List.nil_append,Int.natCast_zero] at hL hQ' ⊢
   cases D with
   | nil=>
    simp only[qfs,qfr] at hL hQ' ⊢
    cases done with
    | nil=>
     simp only at hL hQ' ⊢
     have fX:=(cJ8 @hd @hw @hpl @hg @hg1 @hg2 @hk7 (cJ2 @z0 @z1))
     refine qaa qfI.eq_1 ?_
     refine W_gc ?_
     refine wR0 700 [1,6,7,22,23,24,25] fX ?_
     refine wT @hd ?_
     refine wR0 800 [1,6,7,8,9,22,23,24] fX ?_
     refine wR0 900 [1,6,7,8,22,23,24,41] fX ?_
     refine wF @hk7 ?_
     refine wR0 1000 [1,6,7,8,22,23,24,43,44] fX ?_
     refine wN ?_
     skip
     refine wL ?_
     refine hL _ ?_
     ·intro j
      refine wN ?_
      refine wR0 1700 [1,6,7,22,23,24] fX ?_
      refine wN ?_
      refine qay [0,1505] (by simp[inL]) (by simp[inL,T.cl,hpc]) (by simp[qaf,inL,Slot.cl,T.cl,clL]) ?_
      simpa [qaf,inL] using hQ'
    | cons z zs=>
     simp only at hL hQ' ⊢
     have fX:=(cJ8 @hd @hw @hpl @hg @hg1 @hg2 @hk7 (cJ2 @z0 @z1))
     refine qaa qfI.eq_1 ?_
     refine W_gc ?_
     refine wR0 700 [1,6,7,22,23,24,25] fX ?_
     refine wT @hd ?_
     refine wR0 800 [1,6,7,8,9,22,23,24] fX ?_
     refine wR0 900 [1,6,7,8,22,23,24,41] fX ?_
     refine wF @hk7 ?_
     refine wR0 1000 [1,6,7,8,22,23,24,43,44] fX ?_
     refine wN ?_
     rw[qiG (j:=1505) (k:=803) (by omega)]
     refine wL ?_
     refine hL _ ?_
     ·intro j
      refine wN ?_
      refine wR0 1700 [1,6,7,22,23,24] fX ?_
      refine wN ?_
      refine qay [0,1505] (by simp[inL]) (by simp[inL,T.cl,hpc]) (by simp[qaf,inL,Slot.cl,T.cl,clL]) ?_
      simpa [qaf,inL] using hQ'
   | cons y ys=>
    simp only[qfs,qfr] at hL hQ' ⊢
    cases done with
    | nil=>
     simp only at hL hQ' ⊢
     have fX:=(cJ8 @hd @hw @hpl @hg @hg1 @hg2 @hk7 (cJ2 @z0 @z1))
     refine qaa qfI.eq_1 ?_
     refine W_gc ?_
     refine wR0 700 [1,6,7,22,23,24,25] fX ?_
     refine wT @hd ?_
     refine wR0 800 [1,6,7,8,9,22,23,24] fX ?_
     refine wR0 900 [1,6,7,8,22,23,24,41] fX ?_
     refine wF @hk7 ?_
     refine wR0 1000 [1,6,7,8,22,23,24,43,44] fX ?_
     refine wN ?_
     skip
     refine wL ?_
     refine hL _ ?_
     ·intro j
      refine wN ?_
      refine wR0 1700 [1,6,7,22,23,24] fX ?_
      refine wN ?_
      refine qay [0,1505] (by simp[inL]) (by simp[inL,T.cl,hpc]) (by simp[qaf,inL,Slot.cl,T.cl,clL]) ?_
      simpa [qaf,inL] using hQ'
    | cons z zs=>
     simp only at hL hQ' ⊢
     have fX:=(cJ8 @hd @hw @hpl @hg @hg1 @hg2 @hk7 (cJ2 @z0 @z1))
     refine qaa qfI.eq_1 ?_
     refine W_gc ?_
     refine wR0 700 [1,6,7,22,23,24,25] fX ?_
     refine wT @hd ?_
     refine wR0 800 [1,6,7,8,9,22,23,24] fX ?_
     refine wR0 900 [1,6,7,8,22,23,24,41] fX ?_
     refine wF @hk7 ?_
     refine wR0 1000 [1,6,7,8,22,23,24,43,44] fX ?_
     refine wN ?_
     rw[qiG (j:=1505) (k:=803) (by omega)]
     refine wL ?_
     refine hL _ ?_
     ·intro j
      refine wN ?_
      refine wR0 1700 [1,6,7,22,23,24] fX ?_
      refine wN ?_
      refine qay [0,1505] (by simp[inL]) (by simp[inL,T.cl,hpc]) (by simp[qaf,inL,Slot.cl,T.cl,clL]) ?_
      simpa [qaf,inL] using hQ'
  ·have hk7:(kk != 7)=true:=by simpa using h7
   have hFt:¬isF p i=true:=by rw[hF];simpa using h7
   rw[List.filter_cons_of_neg hFt] at hR
   have hQ':=ih (i+1) done (by omega) (by omega) hR
   clear hR hF hFt
   simp only[pgC] at hQ' ⊢
   cases done with
   | nil=>
    simp only[qfs,qfr] at hQ' ⊢
    have fX:=(cJ8 @hd @hw @hpl @hg @hg1 @hg2 @hk7 (cJ2 @z0 @z1))
    refine qaa qfI.eq_1 ?_
    refine W_gc ?_
    refine wR0 700 [1,6,7,22,23,24,25] fX ?_
    refine wT @hd ?_
    refine wR0 800 [1,6,7,8,9,22,23,24] fX ?_
    refine wR0 900 [1,6,7,8,22,23,24,41] fX ?_
    refine wT @hk7 ?_
    refine wX ?_
    refine wR0 1700 [1,6,7,22,23,24] fX ?_
    refine wN ?_
    refine qay [0,1505] (by simp[inL]) (by simp[inL,T.cl,hpc]) (by simp[qaf,inL,Slot.cl,T.cl,clL]) ?_
    simpa [qaf,inL] using hQ'
   | cons z zs=>
    simp only[qfs,qfr] at hQ' ⊢
    have fX:=(cJ8 @hd @hw @hpl @hg @hg1 @hg2 @hk7 (cJ2 @z0 @z1))
    refine qaa qfI.eq_1 ?_
    refine W_gc ?_
    refine wR0 700 [1,6,7,22,23,24,25] fX ?_
    refine wT @hd ?_
    refine wR0 800 [1,6,7,8,9,22,23,24] fX ?_
    refine wR0 900 [1,6,7,8,22,23,24,41] fX ?_
    refine wT @hk7 ?_
    refine wX ?_
    refine wR0 1700 [1,6,7,22,23,24] fX ?_
    refine wN ?_
    refine qay [0,1505] (by simp[inL]) (by simp[inL,T.cl,hpc]) (by simp[qaf,inL,Slot.cl,T.cl,clL]) ?_
    simpa [qaf,inL] using hQ'
def qq6 (p:Pg):T:=if okP p=true then (if (mngs p).length≤12 then .tup [.list (qaj (tgL p)),.int .i64 0] else .tup [.list [],.int .i64 1]) else .tup [.list [],.int .i64 47]
set_option maxHeartbeats 16000000 in
theorem qgn (p:Pg)(hp:p.fit):TP Tryz.prog 12 [qar p] (qq6 p):=by
 have hof:=qny p hp
 unfold qq6
 unfold ofT at hof
 by_cases hok:okP p=true
 ·rw[if_pos hok] at hof ⊢
  by_cases hl:(mngs p).length≤12
  ·rw[if_pos hl] at hof ⊢
   have ho:=qbq hok
   have hz:((0:Int) != 0)=false:=rfl
   have hpp:=qc0 p hp
   have h6:(plcs p).length≤6:=by rw[qbh];exact ho.six
   have hpl:(qbe (plP p)).length=(plcs p).length:=by rw[qa0,qbV hok]
   have hL:=fun Q a=>quS p hp hok (plcs p).length rfl (qbe (plP p)) rfl (tgU p) Q a (plcs p).length 0 [] (by omega) (by simp) rfl
   have hfit:∀v∈tgU p,v.fit:=fun v hv=>by
    obtain⟨a,i,_,_,_,rfl⟩:=(qpL p v).1 hv
    exact qct _ _ (by rw[qaV];omega)
   rw[←qrc]
   have hlen:(tgU p).length≤1000000:=by
    have hv:=ho.vals
    have h1:∀l:List Nat,(l.flatMap fun i=>(List.range' 0 p.vals.toNat).map fun v=>cfV ((v:Nat):Int) (qaN (plcs p).length i)).length=l.length*p.vals.toNat:=fun l=>by
     induction l with
     | nil=>simp
     | cons x l ih=>rw[List.flatMap_cons,List.length_append,ih];simp[Nat.add_mul];omega
    have h2:=List.length_filter_le (isF p) (List.range' 0 (plcs p).length)
    rw[List.length_range'] at h2
    rw[tgU,h1]
    calc _≤6*8:=Nat.mul_le_mul (by omega) (by omega)
     _≤1000000:=by omega
   clear hl
   generalize tgU p=R at*
   generalize (plcs p).length=n at*
   simp only[tuE,tuH,qar,pgC,List.cons_append,List.nil_append,List.append_nil,Int.natCast_zero,qfs,qfr] at hof hpp hL ⊢
   cases R with
   | nil=>
    simp only at hL
    have fX:=(cJ2 @hz @hpl)
    refine qag fn12 (by simp) ?_
    unfold i12
    simp only[argL]
    refine wR0 0 [1] fX ?_
    refine wRn 100 [1,5] fX ?_
    refine rC fX ?_
    refine⟨_,hof,rE fX ?_⟩
    refine wR0 200 [1,5,18] fX ?_
    refine wF @hz ?_
    refine wR0 400 [1,6] fX ?_
    refine wRn 500 [1,6,7] fX ?_
    refine rC fX ?_
    refine⟨_,hpp,rE fX ?_⟩
    refine wR0 600 [1,6,7,22,23,24] fX ?_
    refine wL ?_
    refine hL _ ?_
    ·intro j
     refine wN ?_
     refine wRn 1800 [6] fX ?_
     refine rC fX ?_
     refine⟨_,qlf 46,rE fX ?_⟩
     refine wR0 1900 [2,3] fX ?_
     refine wP ?_
     exact qaK .nil (.same rfl)
   | cons z zs=>
    have hsl:=qld (z::zs)
    have hst:=qsQ 1505 35 (z::zs) (by simp) hlen hfit
    simp only[List.length_cons] at hsl hst
    generalize qlc (z::zs)=S at*
    simp only at hL
    have fX:=(cJ2 @hz @hpl)
    refine qag fn12 (by simp) ?_
    unfold i12
    simp only[argL]
    refine wR0 0 [1] fX ?_
    refine wRn 100 [1,5] fX ?_
    refine rC fX ?_
    refine⟨_,hof,rE fX ?_⟩
    refine wR0 200 [1,5,18] fX ?_
    refine wF @hz ?_
    refine wR0 400 [1,6] fX ?_
    refine wRn 500 [1,6,7] fX ?_
    refine rC fX ?_
    refine⟨_,hpp,rE fX ?_⟩
    refine wR0 600 [1,6,7,22,23,24] fX ?_
    refine wL ?_
    refine hL _ ?_
    ·intro j
     refine wN ?_
     refine wRn 1800 [6] fX ?_
     refine rU [(1505,.live ⟨35,qcv (z::zs)⟩)] [(1505,.live ⟨35,qcv S⟩)] fX ?_
     refine⟨_,hst.fullL (by simp) (by simp[qgv,qcG,qdc]),rE fX ?_⟩
     refine wR0 1900 [2,3] fX ?_
     refine wP ?_
     exact qaK (qt4 S rfl hsl.symm (by rw[hsl])) (.same rfl)
  ·rw[if_neg hl] at hof ⊢
   have hz:((1:Int) != 0)=true:=rfl
   simp only[qar,pgC] at hof ⊢
   have fX:=@hz
   refine qag fn12 (by simp) ?_
   unfold i12
   simp only[argL]
   refine wR0 0 [1] fX ?_
   refine wRn 100 [1,5] fX ?_
   refine rC fX ?_
   refine⟨_,hof,rE fX ?_⟩
   refine wR0 200 [1,5,18] fX ?_
   refine wT @hz ?_
   refine wR0 300 [2,3] fX ?_
   refine wP ?_
   exact qaK .nil (.same rfl)
 ·rw[if_neg hok] at hof ⊢
  have hz:((47:Int) != 0)=true:=rfl
  simp only[qar,pgC] at hof ⊢
  have fX:=@hz
  refine qag fn12 (by simp) ?_
  unfold i12
  simp only[argL]
  refine wR0 0 [1] fX ?_
  refine wRn 100 [1,5] fX ?_
  refine rC fX ?_
  refine⟨_,hof,rE fX ?_⟩
  refine wR0 200 [1,5,18] fX ?_
  refine wT @hz ?_
  refine wR0 300 [2,3] fX ?_
  refine wP ?_
  exact qaK .nil (.same rfl)
end
section
open Go.RowKit
set_option maxHeartbeats 2000000
attribute [local simp] qau qav qaD qaJ qa1 qbo qaB qah qa5 qaI qak qb2
def qsh:ByteArray:=⟨#[109,97,105,110]⟩
def pgS:Pg:=⟨2,[⟨qsh,[⟨1,1,3⟩,⟨7,0,4⟩]⟩]⟩
theorem qp6:pgS.fit where
 ths:=by simp[pgS]
 lines:=fun t ht=>by simp[pgS] at ht;subst ht;simp
 names:=fun t ht=>by simp[pgS] at ht;subst ht;exact (show (4:Nat)≤1000000 by omega)
theorem qtz:okP pgS=true:=by
 have h:qcr qsh=true:=qgp
 simp[okP,pgS,thsB,qc8,qfL,qcV,h,inS]
def evS:Ev:=⟨0,0,3,1,1⟩
theorem qm5:mngs pgS=[(0,evS),(1,evS)]:=rfl
theorem pgS_tg:(tgL pgS).length=2:=rfl
theorem pgS_rl:(mdl pgS).rules=[mrl pgS 0 (0,evS),mrl pgS 1 (1,evS)]:=rfl
theorem fz_pgS {H:Heap}{D:Nat→Bool}{t1 t2:Nat}(d1:D 102=false)(d2:D 104=false)(h1:H 102=.live ⟨t1,[.int .i64 1,.int .i64 1,.int .i64 3,.int .i64 7,.int .i64 0,.int .i64 4]⟩)(h2:H 104=.live ⟨t2,[.str qsh,.sl 102 6 3 0 2]⟩):Fz H D (.sl 104 2 2 0 1) (.list (qa4 pgS.ths)):=by
 refine Fz.slL h2 d2 rfl rfl rfl rfl rfl (.cons (.same rfl) (.cons ?_ .nil))
 exact Fz.slL h1 d1 rfl rfl rfl rfl rfl (.cons (.same rfl) (.cons (.same rfl) (.cons (.same rfl) (.cons (.same rfl) (.cons (.same rfl) (.cons (.same rfl) .nil))))))
set_option maxHeartbeats 8000000 in
theorem qcQ:TP Tryz.prog 8 [] (.bool true):=by
 have hm:=qcH pgS qp6
 rw[qd8,if_pos qtz,if_pos (by rw[qm5];simp),qaA,mdC,pgS_rl] at hm
 have ht:=qgn pgS qp6
 rw[qq6,if_pos qtz,if_pos (by rw[qm5];simp)] at ht
 have hl:(qaj (tgL pgS)).length=2:=by rw[qal];exact pgS_tg
 generalize qaj (tgL pgS)=TG at*
 have e1:mrl pgS 0 (0,evS)=⟨nmS 114 0,0,1,qaN 2 0,doC pgS (qaN 2 0) evS,[],0,0,0,[],[],[],[],0⟩:=rfl
 have e2:mrl pgS 1 (1,evS)=⟨nmS 114 1,1,1,qaN 2 0,doC pgS (qaN 2 0) evS,[],0,0,0,[],[],[],[],0⟩:=rfl
 have hr:qaR [mrl pgS 0 (0,evS),mrl pgS 1 (1,evS)]=[.agg (rlC (mrl pgS 0 (0,evS))),.agg (rlC (mrl pgS 1 (1,evS)))]:=rfl
 rw[e1,e2] at hr
 rw[e1,e2,hr] at hm
 simp only[rlC] at hm
 generalize (mdl pgS).start.kids=KD at*
 generalize (mdl pgS).start.n=KN at*
 generalize nmS 114 0=n0 at*
 generalize nmS 114 1=n1 at*
 generalize doC pgS (qaN 2 0) evS=d0 at*
 generalize qaN 2 0=u0 at*
 generalize (mdl pgS).states=s0 at*
 generalize (mdl pgS).places=p0 at*
 generalize (mdl pgS).letters=l0 at*
 generalize (mdl pgS).ranks=k0 at*
 generalize (mdl pgS).levels=v0 at*
 generalize (mdl pgS).age=a0 at*
 generalize (mdl pgS).kind=i0 at*
 have z0:(0:Int).toNat=0:=rfl
 have z1:(1:Int).toNat=1:=rfl
 have b0:((0:Int)==0)=true:=rfl
 have b1:((1:Int)==1)=true:=rfl
 have b2:(((2:Nat):Int)==2)=true:=rfl
 have hmn:(⟨#[109,97,105,110]⟩:ByteArray)=qsh:=rfl
 have hms:∀a b:T,[a,b].length=2:=fun _ _=>rfl
 have hpc:qar pgS=.agg [.int .i64 2,.list (qa4 pgS.ths)]:=rfl
 have hpo:Ones [T.int .i64 2,.list (qa4 pgS.ths)]:=fun c hc=>List.all_eq_true.1 (show (List.all _ T.one)=true from rfl) c hc
 rw[hpc] at hm ht
 have fX:=(cJ8 @hmn @hl @hms @z0 @z1 @b0 @b1 @b2)
 refine qag fn8 (by simp) ?_
 unfold i8
 simp only[argL]
 refine wR0 0 [] fX ?_
 refine wR0 100 [1] fX ?_
 simp only[thn]
 refine qbZ (l':=[(1,.ref 106 2 0)]) (hl':=[(102,.dead),(104,.dead),(106,.live ⟨28,[.int .i64 2,.list (qa4 pgS.ths)]⟩)]) [106] (.cons (.same rfl) .nil) (.dead rfl (fun h=>by cases h) (.dead rfl (fun h=>by cases h) (.keep rfl (SlotFz.liveL (.cons (.same rfl) (.cons (fz_pgS rfl rfl rfl rfl) .nil)) rfl) .nil))) ?_
 refine wRn 200 [1,2,3] fX ?_
 refine rC fX ?_
 refine⟨_,hm,rE fX ?_⟩
 refine wRn 300 [2,3,4,5] fX ?_
 refine rC fX ?_
 refine⟨_,ht,rE fX ?_⟩
 refine wR0 400 [0] fX ?_
 refine wP ?_
 exact .same rfl
end
end Go.Proofs.YtkbjpglehdhjfaaGreatDoor
