/- Contracts of functions of the program, for all arguments that they name. -/
import Derived.Test.YtkbjpglehdhjfaaGreatDoorK37
namespace Go.Proofs.YtkbjpglehdhjfaaGreatDoor
set_option linter.unusedVariables false
section
open Go.RowKit
set_option maxHeartbeats 2000000
attribute [local simp] qau qav qaD qaJ qa1 qah qaT qaO qak qax qc9 qaI qdC
def vS (x:V):Int:=(x.kids.getD 0 v0).n
def vC (x:V):List Int:=x.kids.tail.map (·.n)
theorem quW (s:Int)(c:List Int):vS (cfV s c)=s:=rfl
theorem quV (s:Int)(c:List Int):vC (cfV s c)=c:=by
 show (c.map natV).map (·.n)=c
 rw[List.map_map]
 exact (List.map_congr_left fun x _=>rfl).trans (List.map_id _)
theorem qoA {α:Type}(d:α)(P:α→Bool)(L:List α):((List.range' 0 L.length).any fun i=>P (L.getD i d))=L.any P:=by
 rw[Bool.eq_iff_iff,List.any_eq_true,List.any_eq_true]
 constructor
 ·rintro ⟨i,hi,h⟩
  have hl:i<L.length:=by simpa [List.mem_range'_1] using hi
  rw[List.getD_eq_getElem?_getD,List.getElem?_eq_getElem hl,Option.getD_some] at h
  exact⟨_,List.getElem_mem hl,h⟩
 ·rintro ⟨x,hx,h⟩
  obtain⟨i,hl,rfl⟩:=List.getElem_of_mem hx
  exact⟨i,by simp[List.mem_range'_1,hl],by rw[List.getD_eq_getElem?_getD,List.getElem?_eq_getElem hl];exact h⟩
theorem qkK {p:Pg}{B v:Int}{c:List Int}(h:StOk p B v c)(w:Int)(i:Nat)(hi:i<(plcs p).length):leCf w (qaN (plcs p).length i) v c=true↔w=v∧c.getD i 0 > 0:=by
 simp only[leCf,Bool.and_eq_true,beq_iff_eq,List.all_eq_true,List.mem_range'_1,decide_eq_true_eq,qaV]
 constructor
 ·rintro ⟨h1,h2⟩
  have:=h2 i ⟨Nat.zero_le _,by omega⟩
  rw[qbO _ _ _ hi,if_pos rfl] at this
  exact⟨h1,by omega⟩
 ·rintro ⟨h1,h2⟩
  refine⟨h1,fun j hj=>?_⟩
  rw[qbO _ _ _ (by omega)]
  have:=h.ent j
  split
  ·rename_i e;subst e;omega
  ·omega
theorem qrO {p:Pg}(hok:okP p=true){B v:Int}{c:List Int}(h:StOk p B v c):((List.range' 0 (tgL p).length).any fun i=>leCf (vS ((tgL p).getD i v0)) (vC ((tgL p).getD i v0)) v c)=qnS p c:=by
 rw[qoA v0 (fun x=>leCf (vS x) (vC x) v c) (tgL p),Bool.eq_iff_iff,←qrP hok h,List.any_eq_true]
 constructor
 ·rintro ⟨x,hx,hl⟩
  obtain⟨w,i,h1,h2,h3,rfl⟩:=(qjO p x).1 hx
  rw[quW,quV,qkK h _ _ h2] at hl
  exact⟨w,i,h1,h2,h3,hl.1,hl.2⟩
 ·rintro ⟨w,i,h1,h2,h3,h4,h5⟩
  exact⟨_,(qjO p _).2 ⟨w,i,h1,h2,h3,rfl⟩,by rw[quW,quV,qkK h _ _ h2];exact⟨h4,h5⟩⟩
theorem qq9 {p:Pg}{i:Nat}(hi:i<(tgL p).length):∃w j:Nat,w<p.vals.toNat∧j<(plcs p).length∧(tgL p).getD i v0=cfV (w:Nat) (qaN (plcs p).length j):=by
 have:(tgL p).getD i v0∈tgL p:=by
  rw[List.getD_eq_getElem?_getD,List.getElem?_eq_getElem hi];exact List.getElem_mem hi
 obtain⟨w,j,h1,h2,_,h3⟩:=(qjO p _).1 this
 exact⟨w,j,h1,h2,h3⟩
theorem qnB {m:Md}{c:V}(h:qdr m c=true):qdt (qa9 m) c=true:=by
 simp only[qdr,Bool.and_eq_true] at h
 exact h.2
set_option maxHeartbeats 8000000 in
theorem qq8 (s:List Int)(hs:∀j,0≤s.getD j 0∧s.getD j 0≤255)(hsl:s.length≤9223372036854775807)(hm:¬(mngs (prD (newD s)).1).length≤12):TP Tryz.prog 3 [.list (qbT s)] (.bool true):=by
 have hnew:=qey s hsl
 have hd:=qeu hs
 generalize newD s=d at*
 have hpr:=qeA d hd
 have hok:=(qd9 hd).1
 have hfit:=qez hd
 generalize (prD d).1=p at*
 generalize (prD d).2=d1 at*
 have hmod:=qcH p hfit
 rw[qd8,if_pos hok,if_neg hm] at hmod
 have htg:=qgn p hfit
 rw[qq6,if_pos hok,if_neg hm] at htg
 have hz:((1:Int) != 0)=true:=rfl
 have hz1:((1:Int)==1)=true:=rfl
 have hsn:=qcQ
 simp only[qar,pgC,qaA,mdC] at hpr hmod htg
 have fX:=(cJ3 @hz @hz1 @Bool.not_true)
 refine qag fn3 (by simp) ?_
 unfold i3
 simp only[argL]
 refine wR0 0 [0] fX ?_
 refine wRn 100 [0,19] fX ?_
 refine rC fX ?_
 refine⟨_,hsn,rE fX ?_⟩
 refine wF fX ?_
 refine wRn 300 [3] fX ?_
 refine rU [] [(99999,dcB d)] fX ?_
 refine⟨_,hnew,rE fX ?_⟩
 refine wRn 400 [3,4] fX ?_
 refine rU [(99999,dcB d)] [(99999,dcB d1)] fX ?_
 refine⟨_,hpr.fulD,rE fX ?_⟩
 refine wRn 500 [3,4,5,6] fX ?_
 refine rC fX ?_
 refine⟨_,hmod,rE fX ?_⟩
 refine wRn 600 [3,4,5,6,7,8] fX ?_
 refine rC fX ?_
 refine⟨_,htg,rE fX ?_⟩
 refine wR0 700 [3,4,5,6,7,8,35] fX ?_
 refine wT @hz ?_
 refine wR0 800 [2] fX ?_
 refine wP ?_
 exact .same rfl
set_option maxHeartbeats 8000000 in
theorem qsW (s:List Int)(hs:∀j,0≤s.getD j 0∧s.getD j 0≤255)(hsl:s.length≤9223372036854775807)(hm:(mngs (prD (newD s)).1).length≤12):TP Tryz.prog 3 [.list (qbT s)] (.bool true):=by
 have hnew:=qey s hsl
 have hd:=qeu hs
 generalize newD s=d at*
 have hpr:=qeA d hd
 have hok:=(qd9 hd).1
 have hd1:=(qd9 hd).2.1
 have hfit:=qez hd
 generalize (prD d).1=p at*
 generalize (prD d).2=d1 at*
 have hn0:=qgi hok
 have hmf:=qjN (qbq hok) hm
 have hmp:=qfM (qbq hok) hm
 have hmod:=qcH p hfit
 rw[qd8,if_pos hok,if_pos hm] at hmod
 have htg:=qgn p hfit
 rw[qq6,if_pos hok,if_pos hm] at htg
 have hty:=qsz (mdl p) hmf
 rw[qri,if_pos hmp.check] at hty
 have hvp:1≤p.vals:=(qbq hok).vals.1
 have hpk:=qbN d1 hd1 p.vals hvp
 have hpv:=qa6 hd1 hvp
 have hd2:=qaL hd1 p.vals
 generalize (qao d1 p.vals).1=v at*
 generalize (qao d1 p.vals).2=d2 at*
 have hpp:=qcF p hfit hok
 have hpn:(qbe (plP p)).length=(plcs p).length:=by rw[qa0,qbV hok]
 have hR:qb3 (plcs p).length 1 d2=((qb3 (plcs p).length 1 d2).1,(qb3 (plcs p).length 1 d2).2):=rfl
 have hst:=qjX (p:=p) rfl (most:=1) (by omega) hpv hd2
 have hBl:=qes (plcs p).length 1 d2
 have hL:=fun tk ts rs ps Q hq=>qsX p (mdl p) tk ts rs ps (tgL p) v (plcs p).length (by omega) _ Q hq (plcs p).length 0 [] d2 hd2 (by omega) rfl hR
 generalize (qb3 (plcs p).length 1 d2).1=B at*
 generalize (qb3 (plcs p).length 1 d2).2=d3 at*
 clear hR
 have hcf:=qc2 p hfit hok hm v B (by omega)
 rw[qgL,if_pos (hst.rgt hok (by omega))] at hcf
 have hfl:=qqr p hfit hok B hBl
 have hleq:∀i,i<(tgL p).length→TP Tryz.prog 17 [qaz (qa9 (mdl p)),encV ((tgL p).getD i v0),encV (cfV v B)] (.bool (leCf (vS ((tgL p).getD i v0)) (vC ((tgL p).getD i v0)) v B)):=fun i hi=>by
  obtain⟨w,j,h1,h2,h3⟩:=qq9 hi
  have hu:=qie hok (v:=((w:Nat):Int)) (by omega) j
  rw[h3,quW,quV]
  have hpl:(mdl p).places.length=(plcs p).length:=hmp.places
  exact leq_cf (mdl p) hmf hmp.kind _ _ _ _ (by rw[qaV,hpl]) (by rw[hBl,hpl]) (by rw[hpl];omega) (qnB (hu.valid hok hm (by omega))) (qnB (hst.valid hok hm (by omega))) (qct _ _ (by rw[qaV];omega)) (qct _ _ (by omega))
 have hcmp:∀i,i+1<(tgL p).length→∃k:Int,k<0∧TP Tryz.prog 18 [encV ((tgL p).getD i v0),encV ((tgL p).getD (i+1) v0)] (.int .i64 k):=fun i hi=>by
  obtain⟨w,j,h1,h2,h3⟩:=qq9 (p:=p) (i:=i) (by omega)
  refine⟨_,?_,qme _ _ (by rw[h3];exact qct _ _ (by rw[qaV];omega))⟩
  have:=List.pairwise_iff_getElem.1 (qra p) i (i+1) (by omega) hi (by omega)
  rw[List.getD_eq_getElem?_getD,List.getElem?_eq_getElem (by omega),List.getD_eq_getElem?_getD,List.getElem?_eq_getElem hi]
  exact this
 have hr:=qrO hok hst
 have hTL:(tgL p).length≤1000000:=by
  have h2:(tgU p).length≤1000000:=by
   have h8:=(qbq hok).vals.2
   have key:∀l:List Nat,(l.flatMap fun i=>(List.range' 0 p.vals.toNat).map fun v=>cfV ((v:Nat):Int) (qaN (plcs p).length i)).length≤8*l.length:=by
    intro l
    induction l with
    | nil=>simp
    | cons x l ih=>rw[List.flatMap_cons,List.length_append,List.length_map,List.length_range',List.length_cons];omega
   have h3:=key ((List.range' 0 (plcs p).length).filter (isF p))
   have h4:=List.length_filter_le (isF p) (List.range' 0 (plcs p).length)
   rw[List.length_range'] at h4
   rw[tgU];omega
  rw[←qrc p]
  exact Nat.le_trans (Nat.le_of_eq (qld _)) h2
 rw[qf4 hmp.kind] at hty hleq
 rw[hr.symm] at hfl
 have hL2:=fun r hr Q hq=>qsY p 3 0 [] _ (tgL p) hTL B 0 (natV v::B.map natV) _ hleq hcmp r Q hq (tgL p).length 0 false (by omega) hr
 have hL3:=fun Q hq=>hL2 _ rfl Q hq
 rw[Bool.false_or] at hL3
 clear hr hL2 hleq hcmp hTL hst hd hd1 hd2 hm hok hmf hmp
 have hcy:encV (cfV v B)=.agg [.int .i64 0,.list (qaj (natV v::B.map natV))]:=rfl
 rw[hcy] at hcf
 generalize ((List.range' 0 (tgL p).length).any fun i=>leCf (vS ((tgL p).getD i v0)) (vC ((tgL p).getD i v0)) v B)=r at*
 generalize natV v::B.map natV=YS at*
 generalize tgL p=L at*
 generalize (plcs p).length=n at*
 generalize mdl p=m at*
 generalize (qaU m.states.length::List.replicate m.places.length (Ty.mk 1 0 [] []))=PS at*
 have hz:((0:Int) != 0)=false:=rfl
 have h00:((0:Int)==0)=true:=rfl
 have hbb:(r==r)=true:=by simp
 have hsa:=qcQ
 obtain⟨z,zs,rfl⟩:∃z zs,B=z::zs:=by
  cases B with
  | nil=>simp at hBl;omega
  | cons z zs=>exact⟨z,zs,rfl⟩
 have hL0:=hL 3 0 [] PS
 simp only[qar,pgC,qaA,mdC,qaz,fkE,fkH,flE,flH,tyC,qef,qee,List.cons_append,List.nil_append,List.append_nil,Int.natCast_zero] at hpr hmod htg hty hpp hL0 hL3 hcf hfl ⊢
 have fX:=(cJ5 @hz @hpn @Bool.not_true @h00 @hbb)
 refine qag fn3 (by simp) ?_
 unfold i3
 simp only[argL]
 refine wR0 0 [0] fX ?_
 refine wRn 100 [0,19] fX ?_
 refine rC fX ?_
 refine⟨_,hsa,rE fX ?_⟩
 refine wF fX ?_
 refine wRn 300 [3] fX ?_
 refine rU [] [(99999,dcB d)] fX ?_
 refine⟨_,hnew,rE fX ?_⟩
 refine wRn 400 [3,4] fX ?_
 refine rU [(99999,dcB d)] [(99999,dcB d1)] fX ?_
 refine⟨_,hpr.fulD,rE fX ?_⟩
 refine wRn 500 [3,4,5,6] fX ?_
 refine rC fX ?_
 refine⟨_,hmod,rE fX ?_⟩
 refine wRn 600 [3,4,5,6,7,8] fX ?_
 refine rC fX ?_
 refine⟨_,htg,rE fX ?_⟩
 refine wR0 700 [3,4,5,6,7,8,35] fX ?_
 refine wF @hz ?_
 refine wRn 900 [3,4,7,8,9] fX ?_
 refine rC fX ?_
 refine⟨_,hty,rE fX ?_⟩
 refine wRn 1000 [3,4,7,8,9,11] fX ?_
 refine rU [(99999,dcB d1)] [(99999,dcB d2)] fX ?_
 refine⟨_,hpk.fulD,rE fX ?_⟩
 refine wR0 1100 [3,4,7,8,9,11,12] fX ?_
 refine wRn 1200 [3,4,7,8,9,11,12,54,55] fX ?_
 refine rC fX ?_
 refine⟨_,hpp,rE fX ?_⟩
 refine wL ?_
 refine hL0 _ ?_
 ·intro j
  refine wN ?_
  refine qbZ (l':=[(3,.undef),(4,.ref 402 2 0),(7,.list (qaj L)),(8,.int .i64 0),(9,.ref 905 4 0),(11,.int .i64 v),(12,.list (qad (z::zs))),(54,.int .i64 (n:Int)),(55,.int .i64 j),(56,.bool false)]) (hl':=[(99999,.dead),(402,.live ⟨28,_⟩),(505,.dead),(905,.live ⟨45,_⟩),(1404,.dead)]) [402,905] (.drop (.cons (.same rfl) (.cons (.same (qak _ _)) (.cons (.same rfl) (.cons (.same rfl) (.cons (.same rfl) (.cons (qcR (z::zs) rfl rfl rfl rfl) (.cons (.same rfl) (.cons (.same rfl) (.cons (.same rfl) .nil)))))))))) (.dead rfl (fun h=>by cases h) (.keep rfl (.liveS (qaD _ p) (qa3 p)) (.dead rfl (fun h=>by cases h) (.keep rfl (.liveS (by simp[clL,T.cl]) (qcx rfl)) (.dead rfl (fun h=>by cases h) .nil))))) ?_
  refine wRn 1600 [4,7,8,9,12,13,14] fX ?_
  refine rC fX ?_
  refine⟨_,hcf,rE fX ?_⟩
  refine wR0 1700 [4,7,8,9,12,13,14,15] fX ?_
  refine wR0 1800 [4,7,8,9,12,13,14,15,70,71,72] fX ?_
  refine wL ?_
  refine hL3 _ ?_
  ·intro j
   refine wN ?_
   refine wRn 2500 [2] fX ?_
   refine rC fX ?_
   refine⟨_,hfl,rE fX ?_⟩
   refine wP ?_
   exact .same rfl
end
section
theorem qsZ:∀s:List Int,(∀j,0≤s.getD j 0∧s.getD j 0≤255)→s.length≤9223372036854775807→TP Tryz.prog 3 [.list (qbT s)] (.bool true):=fun s hs hsl=>
 if hm:(mngs (prD (newD s)).1).length≤12 then qsW s hs hsl hm else qq8 s hs hsl hm
end
end Go.Proofs.YtkbjpglehdhjfaaGreatDoor
