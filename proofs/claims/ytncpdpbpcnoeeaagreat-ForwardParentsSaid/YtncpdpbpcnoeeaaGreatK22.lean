/- Contracts of functions of the program, for all arguments that they name. -/
import Derived.Test.YtncpdpbpcnoeeaaGreatK21
namespace Go.Proofs.YtncpdpbpcnoeeaaGreat
set_option linter.unusedVariables false
section
open Go.RowKit
set_option maxHeartbeats 2000000
attribute [local simp] qbG qae qdO qbb
theorem qmp (L:List Lm)(n:Nat):outP L (n+1)=outP L n++if wthA L n=true then [] else [L.getD n default]:=by
 rw[outP,outP,List.range_succ,List.filter_append,List.map_append]
 congr 1
 cases h:wthA L n<;>simp[h]
theorem qoc (L:List Lm)(n:Nat):(outP L n).length≤n:=by
 rw[outP,List.length_map]
 exact Nat.le_trans (List.length_filter_le _ _) (by simp)
set_option maxHeartbeats 8000000 in
theorem lim_l1 (L:List Lm)(hL:L.length≤100000)(hv:∀j,j<L.length→(L.getD j default).vec.length≤1000000)(Q:IExit→(Nat→T)→Heap→Prop)
 (hQ:∀k:Int,Q (.exit 2) (ofL [(3,.list (qay L)),(4,qck 1903 (outF L)),(33,.list (qay L)),(34,.int .i64 (qay L).length),(35,.int .i64 k),(36,.bool false)]) (hpL ([(0,.dead),(508,.dead)]++qcj 1903 (outF L)))) :
 ∀(f i:Nat) (out:List Lm),i+f=L.length→out=outP L i→
 WL Tryz.prog 76 qfm (ofL [(3,.list (qay L)),(4,qck 1903 out),(33,.list (qay L)),(34,.int .i64 (qay L).length),(35,.int .i64 i)]) (hpL ([(0,.dead),(508,.dead)]++qcj 1903 out)) Q:=by
 simp only[List.cons_append,List.nil_append] at hQ ⊢
 intro f
 induction f with
 | zero=>
  intro i out hk ho
  have hd:decide ((i:Int)<((qay L).length:Int))=false:=decide_eq_false (by rw[qa8];omega)
  have e:out=outF L:=by rw[ho,outF,show i=L.length by omega]
  subst e
  have fX:=@hd
  refine qaa qfm.eq_1 ?_
  refine wR0 1000 [3,4,33,34,35,36] fX ?_
  refine wF @hd ?_
  refine wX ?_
  refine wN ?_
  exact hQ _
 | succ f ih=>
  intro i out hk ho
  have hil:i<L.length:=by omega
  have hlt:(i:Int)<((qay L).length:Int):=by rw[qa8];omega
  have hd:decide ((i:Int)<((qay L).length:Int))=true:=decide_eq_true hlt
  have hw:IntKind.wrap .i64 ((i:Int)+1)=((i+1:Nat):Int):=by rw[wrap64 (by omega) (by omega)];rfl
  have hg:=qda L i hil
  have hol:out.length≤i:=by rw[ho];exact qoc L i
  have hs:=qmp L i
  rw[←ho] at hs
  obtain⟨a,ha⟩:∃a,L.getD i default=a:=⟨_,rfl⟩
  rw[ha] at hg hs
  have hL2:=fun out Q h=>lim_l2 L hL hv out i hil Q h L.length 0 false (by omega) rfl
  cases hwt:wthA L i with
  | true=>
   rw[hwt,if_pos rfl,List.append_nil] at hs
   have hQ':=ih (i+1) out (by omega) hs.symm
   cases out with
   | nil=>
    simp only[qck,qcj] at hQ' ⊢
    have h2:=hL2 []
    simp only[l2E,qck,qcj,ha,hwt,lmC,List.cons_append,List.nil_append,List.append_nil] at h2
    have fX:=(cJ4 @hd @hw @hg @qaK)
    refine qaa qfm.eq_1 ?_
    refine W_gc ?_
    refine wR0 1000 [3,4,33,34,35,36] fX ?_
    refine wT @hd ?_
    refine wR0 1100 [3,4,7,8,33,34,35] fX ?_
    refine wR0 1200 [3,4,7,8,9,33,34,35] fX ?_
    refine wR0 1300 [3,4,7,8,9,33,34,35,40,41,42] fX ?_
    refine wL ?_
    refine h2 _ ?_
    ·intro k
     refine wN ?_
     refine wR0 1800 [3,4,8,33,34,35,69] fX ?_
     refine wF fX ?_
     refine wR0 2000 [3,4,33,34,35] fX ?_
     refine wN ?_
     refine qaT [0,508] (by simp[inL]) (by simp[T.cl]) (by simp[qak,inL,Slot.cl]) ?_
     simpa [qak,inL] using hQ'
   | cons z zs=>
    simp only[qck,qcj] at hQ' ⊢
    have h2:=hL2 (z::zs)
    simp only[l2E,qck,qcj,ha,hwt,lmC,List.cons_append,List.nil_append] at h2
    have fX:=(cJ4 @hd @hw @hg @qaK)
    refine qaa qfm.eq_1 ?_
    refine W_gc ?_
    refine wR0 1000 [3,4,33,34,35,36] fX ?_
    refine wT @hd ?_
    refine wR0 1100 [3,4,7,8,33,34,35] fX ?_
    refine wR0 1200 [3,4,7,8,9,33,34,35] fX ?_
    refine wR0 1300 [3,4,7,8,9,33,34,35,40,41,42] fX ?_
    refine wL ?_
    refine h2 _ ?_
    ·intro k
     refine wN ?_
     refine wR0 1800 [3,4,8,33,34,35,69] fX ?_
     refine wF fX ?_
     refine wR0 2000 [3,4,33,34,35] fX ?_
     refine wN ?_
     refine qaT [0,508,1903] (by simp[inL]) (by simp[inL,T.cl]) (by simp[qak,inL,Slot.cl]) ?_
     simpa [qak,inL] using hQ'
  | false=>
   rw[hwt,if_neg (by simp)] at hs
   have hQ':=ih (i+1) (out++[a]) (by omega) hs.symm
   cases out with
   | nil=>
    simp only[qck,qcj,List.nil_append,qam,List.length_nil] at hQ' ⊢
    have h2:=hL2 []
    simp only[l2E,qck,qcj,ha,hwt,lmC,List.cons_append,List.nil_append,List.append_nil] at h2
    have fX:=(cJ4 @hd @hw @hg @qaK)
    refine qaa qfm.eq_1 ?_
    refine W_gc ?_
    refine wR0 1000 [3,4,33,34,35,36] fX ?_
    refine wT @hd ?_
    refine wR0 1100 [3,4,7,8,33,34,35] fX ?_
    refine wR0 1200 [3,4,7,8,9,33,34,35] fX ?_
    refine wR0 1300 [3,4,7,8,9,33,34,35,40,41,42] fX ?_
    refine wL ?_
    refine h2 _ ?_
    ·intro k
     refine wN ?_
     refine wR0 1800 [3,4,8,33,34,35,69] fX ?_
     refine wT fX ?_
     refine wR0 1900 [3,4,33,34,35] fX ?_
     refine wR0 2000 [3,4,33,34,35] fX ?_
     refine wN ?_
     refine qaT [0,508,1903] (by simp[inL]) (by simp[inL,T.cl]) (by simp[qak,inL,Slot.cl,T.cl,clL]) ?_
     simpa [qak,inL] using hQ'
   | cons z zs=>
    have hsn:=qfi (z::zs) a
    have hz:(qam (z::zs)).length=(zs.length+1)*2:=by rw[qaN];rfl
    have hzl:zs.length+1≤100000:=by simp at hol;omega
    have hm2:(zs.length+1+1)*2=(zs.length+1)*2+2:=by omega
    simp only[qck,qcj,List.cons_append,List.length_append,List.length_cons,List.length_nil,Nat.zero_add] at hQ' hsn ⊢
    rw[hsn] at hQ'
    simp only[hm2] at hQ'
    have h2:=hL2 (z::zs)
    simp only[l2E,qck,qcj,ha,hwt,lmC,List.cons_append,List.nil_append] at h2
    have fX:=(cJ5 @hd @hw @hg @qaK @hz)
    refine qaa qfm.eq_1 ?_
    refine W_gc ?_
    refine wR0 1000 [3,4,33,34,35,36] fX ?_
    refine wT @hd ?_
    refine wR0 1100 [3,4,7,8,33,34,35] fX ?_
    refine wR0 1200 [3,4,7,8,9,33,34,35] fX ?_
    refine wR0 1300 [3,4,7,8,9,33,34,35,40,41,42] fX ?_
    refine wL ?_
    refine h2 _ ?_
    ·intro k
     refine wN ?_
     refine wR0 1800 [3,4,8,33,34,35,69] fX ?_
     refine wT fX ?_
     refine wR0 1900 [3,4,33,34,35] fX ?_
     refine wR0 2000 [3,4,33,34,35] fX ?_
     refine wN ?_
     refine qaT [0,508,1903] (by simp[inL]) (by simp[inL,T.cl]) (by simp[qak,inL,Slot.cl,T.cl,clL,qan]) ?_
     simpa [qak,inL] using hQ'
theorem qnc (D:Nat→Bool)(xs:List Lm):clL D (qb5 xs)=true:=by
 rw[qb5]
 generalize xs.length - (qaH xs).length=n
 induction n with
 | zero=>rfl
 | succ n ih=>simp[repl] at ih ⊢;exact ih
theorem qnL {H:Heap}{D:Nat→Bool}{id ty tot n:Nat}(ks:List Lm)(z:List T)(hb:H id=.live ⟨ty,qam ks++z⟩)(hd:D id=false)(ht:(qam ks++z).length=tot)(hn:n=ks.length):Fz H D (.sl id tot 2 0 n) (.list (qay ks)):=by
 subst hn
 have hl:=qaN ks
 refine Fz.sl hb hd ht (by rw[←ht,List.length_append,hl];simp[esz]) (qa8 ks) (qdP ks) (by rw[←qbV];exact qdz ks) fun k hk=>?_
 rw[←qbV,Nat.zero_add]
 simp only
 have hk':k<(qam ks).length:=by rw[hl];simpa [esz] using hk
 rw[List.getD_eq_getElem?_getD,List.getElem?_append_left hk',←List.getD_eq_getElem?_getD]
 exact .same (qaP (qbG _ ks) k)
set_option maxHeartbeats 8000000 in
theorem qma (l:List Nn)(next:Int)(hne:l≠[])(hl:l.length≤100000)(hv:∀j,j<l.length→(l.getD j default).vec≠[]∧(l.getD j default).vec.length≤1000000):TP Tryz.prog 13 [qbm l next] (.list (qay (limF l))):=by
 have hL0:=fun Q h=>lim_l0 l next hl hv Q h l.length 0 [] (by omega) rfl
 obtain⟨xs,hxs⟩:∃xs,l.map nLm=xs:=⟨_,rfl⟩
 have hxl:xs.length=l.length:=by rw[←hxs,List.length_map]
 have hfit:∀x∈xs,x.fit:=fun x hx=>by
  rw[←hxs] at hx
  obtain⟨n,hn,rfl⟩:=List.mem_map.1 hx
  obtain⟨j,hj,rfl⟩:=List.getElem_of_mem hn
  have:=(hv j hj).2
  simpa [nLm,Lm.fit,List.getD_eq_getElem?_getD,hj] using this
 rw[hxs] at hL0
 have hxne:xs≠[]:=by intro e;rw[e] at hxl;simp at hxl;exact hne (List.eq_nil_of_length_eq_zero hxl.symm)
 have hso:=qm6 508 62 xs hxne (by omega) hfit
 have hfs:∀x∈qa4 xs,x.fit:=fun x hx=>hfit x ((qfO xs).mem_iff.1 hx)
 have hsl:=qkY xs
 have hsne:qa4 xs≠[]:=by intro e;rw[e] at hsl;simp at hsl;exact hxne (List.eq_nil_of_length_eq_zero hsl.symm)
 have hco:TC Tryz.prog 36 [.sl 508 (xs.length*2) 2 0 xs.length,.fn 37 []] (hpL [(508,.live ⟨62,qam (qa4 xs)⟩)]) (.sl 508 (xs.length*2) 2 0 (qcR xs).length) (hpL [(508,.live ⟨62,qam (qcR xs)++qb5 (qa4 xs)⟩)]):=by
  have h9:=qiG 37 (qa4 xs) hsne (by omega) hfs qnG
  rw[hsl] at h9
  have r5:∀σ:Nat→Nat,renL σ (qam (qa4 xs))=qam (qa4 xs):=fun σ=>qbe _ (qbG _ _)
  have r6:∀σ:Nat→Nat,renL σ (qam (qaH (qa4 xs))++qb5 (qa4 xs))=qam (qaH (qa4 xs))++qb5 (qa4 xs):=fun σ=>qbe _ (by show clL _ _=true;rw[qan,qbG,qnc];rfl)
  refine qhe [(700,508)] h9 ?_ ?_ ?_ ?_
  all_goals simp[renL,T.ren,Slot.ren,swps,swp,r5,r6,qcR]
 have htl:(qam (qcR xs)++qb5 (qa4 xs)).length=xs.length*2:=by have:=qk4 (qa4 xs);rw[hsl] at this;exact this
 have hal:(qcR xs).length≤xs.length:=by have:=qdM (qa4 xs);rw[hsl] at this;exact this
 have hav:∀j,j<(qcR xs).length→((qcR xs).getD j default).vec.length≤1000000:=fun j hj=>by
  have:=hfit _ ((qlg xs _).1 (List.getElem_mem hj))
  simpa [List.getD_eq_getElem?_getD,hj,Lm.fit] using this
 have hlim:limF l=outF (qcR xs):=by rw[limF,hxs]
 have hL1:=fun Q h=>lim_l1 (qcR xs) (by omega) hav Q h (qcR xs).length 0 [] (by omega) rfl
 rw[hlim]
 generalize outF (qcR xs)=O at*
 obtain⟨z,zs,rfl⟩:∃z zs,xs=z::zs:=by
  cases xs with
  | nil=>exact absurd rfl hxne
  | cons z zs=>exact⟨z,zs,rfl⟩
 simp only[qck,qcj,grC,List.cons_append,List.nil_append,List.length_cons] at hL0 hL1 hso hco htl ⊢
 refine qai fn13 (by simp) ?_
 unfold i13
 simp only[argL,qbm,grC]
 refine wR0 0 [1] cJ0 ?_
 refine wR0 100 [1,3,4] cJ0 ?_
 refine wR0 200 [3,4,13,14,15] cJ0 ?_
 refine wL ?_
 refine hL0 _ ?_
 ·intro j
  refine wN ?_
  refine wRn 700 [3,4] cJ0 ?_
  refine rU [(508,.live ⟨62,qam (z::zs)⟩)] [(508,.live ⟨62,qam (qa4 (z::zs))⟩)] cJ0 ?_
  refine⟨_,hso.full1,rE cJ0 ?_⟩
  refine wRn 800 [3,4] cJ0 ?_
  refine rU [(508,.live ⟨62,qam (qa4 (z::zs))⟩)] [(508,.live ⟨62,qam (qcR (z::zs))++qb5 (qa4 (z::zs))⟩)] cJ0 ?_
  refine⟨_,hco.full1,rE cJ0 ?_⟩
  simp only[thn]
  refine qkg (l':=[(3,.list (qay (qcR (z::zs)))),(4,.nil)]) (hl':=[(0,.dead),(508,.dead)]) [] (.cons (qnL _ _ rfl rfl htl rfl) (.cons (.same rfl) .nil)) (.dead rfl (fun h=>by cases h) (.dead rfl (fun h=>by cases h) .nil)) ?_
  refine wR0 900 [3,4,33,34,35] cJ0 ?_
  refine wL ?_
  refine hL1 _ ?_
  ·intro k
   refine wN ?_
   refine wN ?_
   rcases O with _ | ⟨x,O⟩
   ·skip
    refine wN ?_
    (try simp only[qck,qcj,List.cons_append,List.nil_append])
    refine wR0 2100 [2] cJ0 ?_
    refine wP ?_
    first | exact .nil | exact qjq (x::O) rfl rfl rfl
   ·skip
    refine wN ?_
    (try simp only[qck,qcj,List.cons_append,List.nil_append])
    refine wR0 2100 [2] cJ0 ?_
    refine wP ?_
    first | exact .nil | exact qjq (x::O) rfl rfl rfl
end
section
open Go.RowKit
set_option maxHeartbeats 2000000
attribute [local simp] qbG qae qdO qbb
def idxL (p:Nat→Bool):Nat→Nat→Int
 | _,0 => -1
 | i,k+1=>if p i=true then i else idxL p (i+1) k
theorem ql0 (p:Nat→Bool):∀(k i:Nat),decide (idxL p i k≥0)=!allI (fun j=>!p j) i k
 | 0,i=>by simp[idxL,allI]
 | k+1,i=>by
  have ih:=ql0 p k (i+1)
  rw[idxL,allI]
  cases h:p i with
  | true=>simp
  | false=>simpa using ih
theorem lidx_l (f:FuncId)(caps:List T)(hcaps:clL (fun _=>false) caps=true)(p:Lm→Bool)(xs:List Lm)(hl:xs.length≤100000)(hk:∀x∈xs,TP Tryz.prog f ([qbI x]++caps) (.bool (p x)))(R:Int)(Q:IExit→(Nat→T)→Heap→Prop)
 (hQ0:R = -1→∀j:Int,Q (.exit 0) (ofL [(0,.list (qay xs)),(1,.fn f caps),(7,.int .i64 (qay xs).length),(8,.int .i64 j),(9,.bool false)]) (hpL []))
 (hQ1:Q .ret (ofL [(4,.int .i64 R)]) (hpL [])) :
 ∀(k i:Nat),i+k=xs.length→idxL (fun j=>p (xs.getD j default)) i k=R→
 WL Tryz.prog 19 qhK (ofL [(0,.list (qay xs)),(1,.fn f caps),(7,.int .i64 (qay xs).length),(8,.int .i64 i)]) (hpL []) Q:=by
 intro k
 induction k with
 | zero=>
  intro i hi hR
  have hd:decide ((i:Int)<((qay xs).length:Int))=false:=decide_eq_false (by rw[qa8];omega)
  rw[idxL] at hR
  have fX:=@hd
  refine qaa qhK.eq_1 ?_
  refine wR0 200 [0,1,7,8,9] fX ?_
  refine wF @hd ?_
  refine wX ?_
  refine wN ?_
  exact hQ0 hR.symm _
 | succ k ih=>
  intro i hi hR
  have hil:i<xs.length:=by omega
  have hlt:(i:Int)<((qay xs).length:Int):=by rw[qa8];omega
  have hd:decide ((i:Int)<((qay xs).length:Int))=true:=decide_eq_true hlt
  have hw:IntKind.wrap .i64 ((i:Int)+1)=((i+1:Nat):Int):=by rw[wrap64 (by omega) (by omega)];rfl
  have hg:=qda xs i hil
  have hcl:=hk (xs.getD i default) (by simp[List.getD_eq_getElem?_getD,hil])
  rw[idxL] at hR
  have hih:=ih (i+1) (by omega)
  generalize xs.getD i default=x at*
  simp only[qbI,lmC] at hcl
  cases hp:p x with
  | true=>
   rw[hp] at hcl
   rw[hp,if_pos rfl] at hR
   subst hR
   have fX:=(cJ3 @hd @hw @hg)
   refine qaa qhK.eq_1 ?_
   refine wR0 200 [0,1,7,8,9] fX ?_
   refine wT @hd ?_
   refine wR0 300 [0,1,5,7,8] fX ?_
   refine wRn 400 [0,1,5,7,8,16] fX ?_
   refine rCv fX ?_
   refine⟨_,hcl,rE fX ?_⟩
   refine wT fX ?_
   refine wR0 500 [4] fX ?_
   refine wE ?_
   refine wN ?_
   exact hQ1
  | false=>
   rw[hp] at hcl
   rw[hp,if_neg (by simp)] at hR
   have hQ':=hih hR
   have fX:=(cJ3 @hd @hw @hg)
   refine qaa qhK.eq_1 ?_
   refine wR0 200 [0,1,7,8,9] fX ?_
   refine wT @hd ?_
   refine wR0 300 [0,1,5,7,8] fX ?_
   refine wRn 400 [0,1,5,7,8,16] fX ?_
   refine rCv fX ?_
   refine⟨_,hcl,rE fX ?_⟩
   refine wF fX ?_
   refine wR0 600 [0,1,7,8] fX ?_
   refine wN ?_
   exact hQ'
theorem qp9 (f:FuncId)(caps:List T)(hcaps:clL (fun _=>false) caps=true)(p:Lm→Bool)(xs:List Lm)(hl:xs.length≤100000)(hk:∀x∈xs,TP Tryz.prog f ([qbI x]++caps) (.bool (p x))):TP Tryz.prog 62 [.list (qay xs),.fn f caps] (.int .i64 (idxL (fun j=>p (xs.getD j default)) 0 xs.length)):=by
 obtain⟨R,hR⟩:∃R,idxL (fun j=>p (xs.getD j default)) 0 xs.length=R:=⟨_,rfl⟩
 have hL:=fun Q h0 h1=>lidx_l f caps hcaps p xs hl hk R Q h0 h1 xs.length 0 (by omega) hR
 rw[hR]
 refine qai fn62 (by simp) ?_
 unfold i62
 simp only[argL]
 refine wR0 0 [0,1] cJ0 ?_
 refine wR0 100 [0,1,7,8] cJ0 ?_
 refine wL ?_
 refine hL _ ?_ ?_
 ·intro h j
  refine wN ?_
  refine wR0 700 [4] cJ0 ?_
  refine wP ?_
  (rw[h];exact .same rfl)
 ·skip
  refine wN ?_
  exact⟨by simp,_,rfl,by exact .same rfl⟩
theorem qnY (f:FuncId)(caps:List T)(hcaps:clL (fun _=>false) caps=true)(p:Lm→Bool)(xs:List Lm)(hl:xs.length≤100000)(hk:∀x∈xs,TP Tryz.prog f ([qbI x]++caps) (.bool (p x))):TP Tryz.prog 40 [.list (qay xs),.fn f caps] (.bool (xs.any p)):=by
 have hx:=qp9 f caps hcaps p xs hl hk
 have he:xs.any p=!allI (fun j=>!p (xs.getD j default)) 0 xs.length:=by
  rw[Bool.eq_iff_iff,Bool.not_eq_true',←Bool.not_eq_true,qbC,List.any_eq_true]
  constructor
  ·rintro ⟨x,hx,hp⟩ h
   obtain⟨j,hj,rfl⟩:=List.getElem_of_mem hx
   have:=h j (Nat.zero_le _) (by omega)
   simp[List.getD_eq_getElem?_getD,hj,hp] at this
  ·intro h
   refine Classical.byContradiction fun hn=>h fun j _ hj=>?_
   rw[Bool.not_eq_true',←Bool.not_eq_true]
   exact fun hp=>hn ⟨_,by simp[List.getD_eq_getElem?_getD,show j<xs.length by omega],hp⟩
 rw[he,←ql0]
 refine qai fn40 (by simp) ?_
 unfold i40
 simp only[argL]
 refine wR0 0 [0,1] cJ0 ?_
 refine wRn 100 [4] cJ0 ?_
 refine rC cJ0 ?_
 refine⟨_,hx,rE cJ0 ?_⟩
 refine wP ?_
 exact .same rfl
def covL (L:List Lm)(s:Int)(v:List Int):Bool:=L.any fun x=>(x.st==s)&&vLe v x.vec
theorem qpv (x:Lm)(hx:x.vec.length≤1000000)(s:Int)(v:List Int)(hv:v.length≤1000000):TP Tryz.prog 41 [qbI x,.ptr [.int .i64 s],.ptr [.list (qab v)]] (.bool ((x.st==s)&&vLe v x.vec)):=by
 have hle:=qhd v x.vec hv hx
 simp only[qbI,lmC]
 cases hs:(x.st==s) with
 | true=>
  have fX:=@hs
  refine qai fn41 (by simp) ?_
  unfold i41
  simp only[argL]
  refine wR0 0 [1,2,3] fX ?_
  refine wRn 100 [4] fX ?_
  refine rC fX ?_
  refine⟨_,hle,rE fX ?_⟩
  refine wP ?_
  exact .same rfl
 | false=>
  have fX:=@hs
  refine qai fn41 (by simp) ?_
  unfold i41
  simp only[argL]
  refine wR0 0 [1,2,3] fX ?_
  refine wR0 100 [4] fX ?_
  refine wP ?_
  exact .same rfl
theorem qlz (L:List Lm)(hl:L.length≤100000)(hv:∀x∈L,x.vec.length≤1000000)(s:Int)(v:List Int)(hvl:v.length≤1000000):TP Tryz.prog 15 [.list (qay L),.int .i64 s,.list (qab v)] (.bool (covL L s v)):=by
 have hc:=qnY 41 [.ptr [.int .i64 s],.ptr [.list (qab v)]] (by simp[clL,T.cl]) (fun x=>(x.st==s)&&vLe v x.vec) L hl (fun x hx=>qpv x (hv x hx) s v hvl)
 have hfz:∀H:Heap,H 0=.live ⟨3,[.int .i64 s]⟩→H 1=.live ⟨27,[.list (qab v)]⟩→FrzL H [.list (qay L),.fn 41 [.ref 0 1 0,.ref 1 1 0]] [.list (qay L),.fn 41 [.ptr [.int .i64 s],.ptr [.list (qab v)]]]:=fun H h0 h1=>by
  have one:∀(id:Nat) (ty:TypeId) (x:T),H id=.live ⟨ty,[x]⟩→x.one=true→x.fro=true→Frz H (.ref id 1 0) (.ptr [x]):=fun id ty x h h1 h2=>by
   refine .ref h rfl (Nat.le_refl 1) (fun c hc=>by rw[List.mem_singleton.1 hc];exact h1) fun k hk=>?_
   have:k=0:=by simpa using hk
   subst this
   exact .same h2
  refine .cons (.same (by simp[T.fro,T.cl])) (.cons (.fn rfl fun i hi=>?_) .nil)
  match i,hi with
  | 0,_=>exact one 0 _ _ h0 rfl rfl
  | 1,_=>exact one 1 _ _ h1 rfl (by simp[T.fro,T.cl])
 refine qai fn15 (by simp) ?_
 unfold i15
 simp only[argL]
 refine wR0 0 [0,4,5] cJ0 ?_
 refine wRn 100 [6] cJ0 ?_
 refine rL [(0,.live ⟨_,_⟩),(1,.live ⟨_,_⟩)] cJ0 ?_
 refine⟨_,_,hc,(by exact hfz _ rfl rfl),rfl,rE cJ0 ?_⟩
 refine wP ?_
 exact .same rfl
end
end Go.Proofs.YtncpdpbpcnoeeaaGreat
