/- Contracts of functions of the program, for all arguments that they name. -/
import Derived.Test.YtkbjpglehdhjfaaGreatDoorK25
import Derived.Test.YtkbjpglehdhjfaaGreatDoorK29
import Derived.Test.YtkbjpglehdhjfaaGreatDoorK39
namespace Go.Proofs.YtkbjpglehdhjfaaGreatDoor
set_option linter.unusedVariables false
section
open Go.RowKit
theorem qkm {A:Type}(P:A→Bool):∀(l:List A) (r:Nat) (h:r<l.length),P l[r]=true→(l.filter P)[((l.take r).filter P).length]? = some l[r]
 | [],r,h,_=>by simp at h
 | x::l,0,_,hp=>by
  have:P x=true:=hp
  simp[this]
 | x::l,r+1,h,hp=>by
  have ih:=qkm P l r (by simpa using h) (by simpa using hp)
  rw[List.take_succ_cons,List.filter_cons,List.filter_cons]
  split
  ·simpa using ih
  ·simpa using ih
theorem qlu {A:Type}(P:A→Bool)(l:List A)(r:Nat)(h:r<l.length):((l.take (r+1)).filter P).length=((l.take r).filter P).length+(if P l[r]=true then 1 else 0):=by
 rw[←List.take_append_getElem h,List.filter_append,List.length_append]
 congr 1
 simp only[List.filter_cons,List.filter_nil]
 split<;>rfl
end
section
open Go.RowKit
set_option maxHeartbeats 2000000
attribute [local simp] qau qav qaD qaJ qa1 qbo qaB qah qaT qaO qak qax qc9 qaI
abbrev rkE (M:List Ev)(n:Nat)(v i:Int)(done:List Int):List (Nat×T):=[(3,dcR),(4,.ref 402 2 0),(5,.ref 505 10 0),(7,.list (qaG M)),(9,.int .i64 v),(10,qef 1304 done),(69,.int .i64 (n:Int)),(70,.int .i64 i)]
abbrev rkH (p:Pg)(m:Md)(d:Dc)(done:List Int):List (Nat×Slot):=[(99999,dcB d),(402,.live ⟨28,pgC p⟩),(505,.live ⟨37,mdC m⟩)]++qee 1304 3 done
set_option maxHeartbeats 4000000 in
theorem qs2 (p:Pg)(m:Md)(M:List Ev)(v:Int)(n:Nat)(hn:n≤100000)(R:List Int×Dc)(Q:IExit→(Nat→T)→Heap→Prop)
 (hQ:∀j:Int,Q (.exit 0) (ofL (rkE M n v j R.1++[(71,.bool false)])) (hpL (rkH p m R.2 R.1))) :
 ∀(f i:Nat) (done:List Int) (d:Dc),d.ok→i+f=n→done.length=i→(done++(qb3 f 2 d).1,(qb3 f 2 d).2)=R→
 WL Tryz.prog 197 qpn (ofL (rkE M n v i done)) (hpL (rkH p m d done)) Q:=by
 simp only[rkE,rkH,List.cons_append,List.nil_append] at hQ ⊢
 intro f
 induction f with
 | zero=>
  intro i done d hok hi hdn hR
  have hd:decide ((i:Int)<(n:Int))=false:=decide_eq_false (by omega)
  simp only[qb3,List.append_nil] at hR
  subst hR
  have fX:=@hd
  refine qaa qpn.eq_1 ?_
  refine wR0 1200 [3,4,5,7,9,10,69,70,71] fX ?_
  refine wF @hd ?_
  refine wX ?_
  refine wN ?_
  exact hQ _
 | succ f ih=>
  intro i done d hok hi hdn hR
  have hd:decide ((i:Int)<(n:Int))=true:=decide_eq_true (by omega)
  have hw:IntKind.wrap .i64 ((i:Int)+1)=((i+1:Nat):Int):=by rw[wrap64 (by omega) (by omega)];rfl
  have hpk:=qbN d hok 3 (by omega)
  have hQ':=ih (i+1) (done++[(qao d 3).1]) (qao d 3).2 (qaL hok _) (by omega) (by simp[hdn]) (by rw[←hR];simp[qb3])
  simp only[pgC,mdC] at hQ' ⊢
  cases done with
  | nil=>
   simp only[qef,qee,List.nil_append,List.length_nil] at hQ' ⊢
   have fX:=(cJ3 @hd @hw @qaF)
   refine qaa qpn.eq_1 ?_
   refine W_gc ?_
   refine wR0 1200 [3,4,5,7,9,10,69,70,71] fX ?_
   refine wT @hd ?_
   refine wRn 1300 [3,4,5,7,9,10,69,70] fX ?_
   refine rU [(99999,dcB d)] [(99999,dcB (qao d 3).2)] fX ?_
   refine⟨_,hpk.fulD,rE fX ?_⟩
   refine wR0 1400 [3,4,5,7,9,10,69,70] fX ?_
   refine wN ?_
   refine qay [99999,402,505,1304] (by simp[inL]) (by simp[inL,T.cl]) (by simp[qaf,inL,Slot.cl,T.cl,clL]) ?_
   simpa [qaf,inL,qad] using hQ'
  | cons z zs=>
   have hlb:zs.length+1≤100000:=by simp at hdn;omega
   have he:(qad (z::zs)).length=zs.length+1:=by simp[qad]
   simp only[qef,qee,List.cons_append] at hQ' ⊢
   have fX:=(cJ4 @hd @hw @qaF @he)
   refine qaa qpn.eq_1 ?_
   refine W_gc ?_
   refine wR0 1200 [3,4,5,7,9,10,69,70,71] fX ?_
   refine wT @hd ?_
   refine wRn 1300 [3,4,5,7,9,10,69,70] fX ?_
   refine rU [(99999,dcB d)] [(99999,dcB (qao d 3).2)] fX ?_
   refine⟨_,hpk.fulD,rE fX ?_⟩
   refine wR0 1400 [3,4,5,7,9,10,69,70] fX ?_
   refine wN ?_
   refine qay [99999,402,505,1304] (by simp[inL]) (by simp[inL,T.cl]) (by simp[qaf,inL,Slot.cl,T.cl,clL,qab]) ?_
   simpa [qaf,inL,qad] using hQ'
theorem qio {n j:Nat}(h:j≤n):(bF n j).length=n:=by simp[bF];omega
theorem bF_lo {n j k:Nat}(h:j≤n)(hk:k<j):List.take 1 (List.drop k (bF n j))=[.bool true]:=by
 rw[List.drop_eq_getElem_cons (by rw[qio h];omega)]
 simp[bF,hk]
theorem bF_at {n j:Nat}(h:j<n):List.take 1 (List.drop j (bF n j))=[.bool false]:=by
 rw[List.drop_eq_getElem_cons (by rw[qio (Nat.le_of_lt h)];omega)]
 simp[bF]
theorem bF_set {n j:Nat}(h:j<n):List.take j (bF n j)++[.bool true]++List.drop (j+1) (bF n j)=bF n (j+1):=by
 obtain⟨k,rfl⟩:∃k,n=j+1+k:=⟨n - (j+1),by omega⟩
 have e1:j+1+k - j=k+1:=by omega
 have e2:j+1+k - (j+1)=k:=by omega
 rw[bF,bF,e1,e2,List.take_left' (by simp),←List.drop_drop,List.drop_left' (by simp),List.replicate_succ,List.replicate_succ']
 simp
theorem qqo (n:Nat)(x:T):repl n [x]=List.replicate n x:=by
 unfold repl
 induction n with
 | zero=>rfl
 | succ n ih=>rw[List.replicate_succ,List.flatten_cons,ih,List.replicate_succ];rfl
theorem qtK (n:Nat):bF n 0=repl n [.bool false]:=by
 rw[qqo];simp[bF]
attribute [local simp] qoD
abbrev rmE (M L:List Ev)(v:Int)(c:List Int)(n nr:Nat)(r:Int):List (Nat×T):=[(4,.ref 402 2 0),(5,.ref 505 10 0),(7,.list (qaG M)),(9,.int .i64 v),(10,.list (qad c)),(11,.ref 1507 2 0),(13,.list (qaG L)),(15,.sl 1902 n 0 0 n),(103,.int .i64 (nr:Int)),(104,.int .i64 r)]
abbrev rnE (M L:List Ev)(v:Int)(c:List Int)(n nr:Nat)(r:Int)(X:T)(k:Int):List (Nat×T):=[(4,.ref 402 2 0),(5,.ref 505 10 0),(7,.list (qaG M)),(9,.int .i64 v),(10,.list (qad c)),(11,.ref 1507 2 0),(13,.list (qaG L)),(15,.sl 1902 n 0 0 n),(16,.int .i64 r),(17,X),(19,.int .i64 k),(103,.int .i64 (nr:Int)),(104,.int .i64 r)]
abbrev rmH (p:Pg)(m:Md)(ys:List T)(n j:Nat):List (Nat×Slot):=[(99999,.dead),(402,.live ⟨28,pgC p⟩),(505,.live ⟨37,mdC m⟩),(1304,.dead),(1507,.live ⟨35,[.int .i64 0,.list ys]⟩),(1902,.live ⟨4,bF n j⟩)]
set_option maxHeartbeats 4000000 in
theorem qs4 (p:Pg)(m:Md)(ys:List T)(M L:List Ev)(v:Int)(c:List Int)(n nr r j:Nat)(X:T)(hLl:L.length=n)(hMl:M.length=nr)(hn:n≤1000)(hj:j<n)(hr:r<nr)(hnr:nr≤1000)(hE:L.getD j default=M.getD r default)(Q:IExit→(Nat→T)→Heap→Prop)
 (hQ:Q (.exit 4) (ofL (rnE M L v c n nr r X (j:Int)++[(144,.bool false)])) (hpL (rmH p m ys n j))) :
 ∀(f k:Nat),k+f=j→WL Tryz.prog 197 qr1 (ofL (rnE M L v c n nr r X (k:Int))) (hpL (rmH p m ys n j)) Q:=by
 have hLe:(qaG L).length=n:=by rw[qbA,hLl]
 have hMe:(qaG M).length=nr:=by rw[qbA,hMl]
 have hFl:=qio (Nat.le_of_lt hj)
 simp only[rnE,rmH,pgC,mdC,List.cons_append,List.nil_append] at hQ ⊢
 intro f
 induction f with
 | zero=>
  intro k hk
  obtain rfl:k=j:=by omega
  have hd:decide ((k:Int)<(n:Int))=true:=decide_eq_true (by omega)
  have hlt:(k:Int)<(n:Int):=by omega
  have hlr:(r:Int)<(nr:Int):=by omega
  have hj1:(k:Int).toNat*1=k:=by simp
  have hrd:=bF_at hj
  have hg1:=qb4 L k (by omega)
  have hg2:=qb4 M r (by omega)
  rw[hE] at hg1
  generalize M.getD r default=e at*
  have hb:(e.th==e.th&&(e.ln==e.ln&&(e.num==e.num&&(e.val==e.val&&e.nxt==e.nxt))))=true:=(qfh e e).2 rfl
  simp only[evC] at hg1 hg2
  have fX:=(cJ8 @hLe @hMe @hFl @hd @hj1 @hrd @hg1 (cJ7 @hg2 @qbx.eq_1 @qbx.eq_2 @eqT.eq_1 @eqT.eq_2 @Bool.and_true @hb))
  refine qaa qr1.eq_1 ?_
  refine wR0 2800 [4,5,7,9,10,11,13,15,16,17,19,103,104,144] fX ?_
  refine wF fX ?_
  refine wX ?_
  refine wN ?_
  exact hQ
 | succ f ih=>
  intro k hk
  have hd:decide ((k:Int)<(n:Int))=true:=decide_eq_true (by omega)
  have hlt:(k:Int)<(n:Int):=by omega
  have hlr:(r:Int)<(nr:Int):=by omega
  have hj1:(k:Int).toNat*1=k:=by simp
  have hrd:=bF_lo (Nat.le_of_lt hj) (k:=k) (by omega)
  have hw:IntKind.wrap .i64 ((k:Int)+1)=((k+1:Nat):Int):=by rw[wrap64 (by omega) (by omega)];rfl
  have hQ':=ih (k+1) (by omega)
  have hg1:=qb4 L k (by omega)
  have hg2:=qb4 M r (by omega)
  generalize M.getD r default=e at*
  generalize L.getD k default=e2 at*
  simp only[evC] at hg1 hg2
  have fX:=(cJ8 @hLe @hMe @hFl @hd @hj1 @hrd @hw (cJ6 @hg1 @hg2 @qbx.eq_1 @qbx.eq_2 @eqT.eq_1 @eqT.eq_2))
  refine qaa qr1.eq_1 ?_
  refine wR0 2800 [4,5,7,9,10,11,13,15,16,17,19,103,104,144] fX ?_
  refine wT fX ?_
  refine wR0 2900 [4,5,7,9,10,11,13,15,16,17,19,103,104] fX ?_
  refine wN ?_
  exact hQ'
set_option maxHeartbeats 4000000 in
theorem qs5 (n:Nat)(hn:n≤1000)(sa sb sc sd se:Slot)(Q:IExit→(Nat→T)→Heap→Prop)
 (hQ:∀j:Int,Q (.exit 6) (ofL [(188,.sl 1902 n 0 0 n),(189,.int .i64 (n:Int)),(190,.int .i64 j),(191,.bool false)]) (hpL [(99999,sa),(402,sb),(505,sc),(1304,sd),(1507,se),(1902,.live ⟨4,bF n n⟩)])) :
 ∀(f i:Nat),i+f=n→WL Tryz.prog 197 qr2 (ofL [(188,.sl 1902 n 0 0 n),(189,.int .i64 (n:Int)),(190,.int .i64 (i:Int))]) (hpL [(99999,sa),(402,sb),(505,sc),(1304,sd),(1507,se),(1902,.live ⟨4,bF n n⟩)]) Q:=by
 have hFl:=qio (Nat.le_refl n)
 intro f
 induction f with
 | zero=>
  intro i hi
  have hd:decide ((i:Int)<(n:Int))=false:=decide_eq_false (by omega)
  have fX:=@hd
  refine qaa qr2.eq_1 ?_
  refine wR0 3900 [188,189,190,191] fX ?_
  refine wF @hd ?_
  refine wX ?_
  refine wN ?_
  exact hQ _
 | succ f ih=>
  intro i hi
  have hd:decide ((i:Int)<(n:Int))=true:=decide_eq_true (by omega)
  have hlt:(i:Int)<(n:Int):=by omega
  have hj1:(i:Int).toNat*1=i:=by simp
  have hrd:=bF_lo (Nat.le_refl n) (k:=i) (by omega)
  have hw:IntKind.wrap .i64 ((i:Int)+1)=((i+1:Nat):Int):=by rw[wrap64 (by omega) (by omega)];rfl
  have hQ':=ih (i+1) (by omega)
  have fX:=(cJ6 @hd @hw @hj1 @hrd @hFl @Bool.not_true)
  refine qaa qr2.eq_1 ?_
  refine wR0 3900 [188,189,190,191] fX ?_
  refine wT @hd ?_
  refine wR0 4000 [26,188,189,190] fX ?_
  refine wR0 4100 [188,189,190,195] fX ?_
  refine wF fX ?_
  refine wR0 4300 [188,189,190] fX ?_
  refine wN ?_
  exact hQ'
end
section
open Go.RowKit
set_option maxHeartbeats 2000000
attribute [local simp] qau qav qaD qaJ qa1 qbo qaB qah qaT qaO qak qax qc9 qaI qoD
attribute [local simp] qeh
set_option maxHeartbeats 8000000 in
theorem qs3 (p:Pg)(m:Md)(M L:List Ev)(v:Int)(c:List Int)(n nr:Nat)(hLl:L.length=n)(hMl:M.length=nr)(hn:n≤1000)(hnr:nr≤1000)
 (P:Nat→Bool) (W:Nat→Int) (D:Nat→List Int) (J:Nat→Nat)
 (hap:∀r,r<nr→TP Tryz.prog 22 [qaA m,.int .i64 (r:Int),encV (cfV v c)] (if P r=true then .tup [.list [encV (cfV (W r) (D r))],.int .i64 0] else .tup [.list [],.int .i64 0]))
 (hdo:∀r,r<nr→P r=true→TP Tryz.prog 23 [qar p,.int .i64 v,.list (qad c),.agg (evC (M.getD r default))] (doT (W r,D r,0)))
 (hcf:∀r,r<nr→P r=true→TP Tryz.prog 16 [qar p,.int .i64 (W r),.list (qad (D r))] (.tup [encV (cfV (W r) (D r)),.int .i64 0]))
 (hsm:∀r,r<nr→P r=true→TP Tryz.prog 24 [encV (cfV (W r) (D r)),encV (cfV (W r) (D r))] (.bool true))
 (hJ:∀r,r<nr→J (r+1)=J r+(if P r=true then 1 else 0)) (hJn:∀r,r<nr→P r=true→J r<n∧L.getD (J r) default=M.getD r default)
 (Q:IExit→(Nat→T)→Heap→Prop) (hQ:∀j:Int,Q (.exit 2) (ofL (rmE M L v c n nr j++[(105,.bool false)])) (hpL (rmH p m (cfL v c) n (J nr)))) :
 ∀(f r:Nat),r+f=nr→WL Tryz.prog 197 qpo (ofL (rmE M L v c n nr (r:Int))) (hpL (rmH p m (cfL v c) n (J r))) Q:=by
 have hLe:(qaG L).length=n:=by rw[qbA,hLl]
 have hMe:(qaG M).length=nr:=by rw[qbA,hMl]
 have hyc:∀E,clL E (cfL v c)=true:=fun E=>qeh E v c
 have hz:((0:Int) != 0)=false:=rfl
 have hg0:∀x:T,([x]:List T).getD (Int.toNat 0) .undef=x:=fun x=>rfl
 simp only[rmE,rmH,qrx,qar,pgC,qaA,mdC,List.cons_append,List.nil_append] at hap hdo hcf hsm hQ ⊢
 generalize cfL v c=YS at*
 intro f
 induction f with
 | zero=>
  intro r hr
  obtain rfl:r=nr:=by omega
  have hd:decide ((r:Int)<(r:Int))=false:=decide_eq_false (by omega)
  have fX:=@hd
  refine qaa qpo.eq_1 ?_
  refine wR0 2100 [4,5,7,9,10,11,13,15,103,104,105] fX ?_
  refine wF @hd ?_
  refine wX ?_
  refine wN ?_
  exact hQ _
 | succ f ih=>
  intro r hr
  have hrl:r<nr:=by omega
  have hlr:(r:Int)<(nr:Int):=by omega
  have hd:decide ((r:Int)<(nr:Int))=true:=decide_eq_true hlr
  have hw:IntKind.wrap .i64 ((r:Int)+1)=((r+1:Nat):Int):=by rw[wrap64 (by omega) (by omega)];rfl
  have hap:=hap r hrl
  have hJ1:=hJ r hrl
  have hQ':=ih (r+1) (by omega)
  rw[hJ1] at hQ'
  cases hP:P r with
  | false=>
   rw[hP,if_neg (by simp)] at hap
   rw[hP,if_neg (by simp),Nat.add_zero] at hQ'
   have h10:decide ((0:Int) > 1)=false:=rfl
   have h00:((0:Int)==0)=true:=rfl
   clear hdo hcf hsm hJ hJn hQ ih hJ1
   have fX:=(cJ5 @hd @hw @hz @h10 @h00)
   refine qaa qpo.eq_1 ?_
   refine W_gc ?_
   refine wR0 2100 [4,5,7,9,10,11,13,15,103,104,105] fX ?_
   refine wT @hd ?_
   refine wR0 2200 [4,5,7,9,10,11,13,15,16,103,104] fX ?_
   refine wRn 2300 [4,5,7,9,10,11,13,15,16,17,18,103,104] fX ?_
   refine rC fX ?_
   refine⟨_,hap,rE fX ?_⟩
   refine wR0 2400 [4,5,7,9,10,11,13,15,16,17,103,104,120] fX ?_
   refine wF fX ?_
   refine wR0 2600 [4,5,7,9,10,11,13,15,16,17,103,104,123] fX ?_
   refine wT @h00 ?_
   refine wX ?_
   refine wR0 3700 [4,5,7,9,10,11,13,15,103,104] fX ?_
   refine wN ?_
   refine qay [99999,402,505,1304,1507,1902] (by simp[inL]) (by simp[inL,T.cl]) (by simp[qaf,inL,Slot.cl,T.cl,clL,hyc]) ?_
   simpa [qaf,inL] using hQ'
  | true=>
   rw[hP,if_pos rfl] at hap
   rw[hP,if_pos rfl] at hQ'
   obtain⟨hj,hE⟩:=hJn r hrl hP
   have hdo:=hdo r hrl hP
   have hcf:=hcf r hrl hP
   have hsm:=hsm r hrl hP
   have hL2:=fun X Q hq=>qs4 p m YS M L v c n nr r (J r) X hLl hMl hn hj hrl hnr hE Q hq (J r) 0 (by omega)
   have hg2:=qb4 M r (by omega)
   generalize J r=j at*
   generalize M.getD r default=e at*
   generalize W r=w at*
   generalize hDr:D r=dd at*
   clear hJ hJn hQ ih hJ1 hDr hE
   have hjn:((j:Int)==(n:Int))=false:=by rw[beq_eq_false_iff_ne];omega
   have hlt:(j:Int)<(n:Int):=by omega
   have hj1:(j:Int).toNat*1=j:=by simp
   have hFl:=qio (Nat.le_of_lt hj)
   have hsw:=bF_set hj
   have h11:decide ((1:Int) > 1)=false:=rfl
   have h10:((1:Int)==0)=false:=rfl
   have hkc:∀E,clL E (cfL w dd)=true:=fun E=>qeh E w dd
   generalize cfL w dd=KS at*
   simp only[evC,doT,rnE,rmH,pgC,mdC,List.cons_append,List.nil_append,Int.natCast_zero] at hdo hL2 hg2
   have fX:=(cJ8 @hd @hw @hz @h11 @h10 @hjn @hj1 (cJ7 @hFl @hsw @hg0 @hg2 @hLe @hMe @Bool.not_true))
   refine qaa qpo.eq_1 ?_
   refine W_gc ?_
   refine wR0 2100 [4,5,7,9,10,11,13,15,103,104,105] fX ?_
   refine wT @hd ?_
   refine wR0 2200 [4,5,7,9,10,11,13,15,16,103,104] fX ?_
   refine wRn 2300 [4,5,7,9,10,11,13,15,16,17,18,103,104] fX ?_
   refine rC fX ?_
   refine⟨_,hap,rE fX ?_⟩
   refine wR0 2400 [4,5,7,9,10,11,13,15,16,17,103,104,120] fX ?_
   refine wF fX ?_
   refine wR0 2600 [4,5,7,9,10,11,13,15,16,17,103,104,123] fX ?_
   refine wF @h10 ?_
   refine wR0 2700 [4,5,7,9,10,11,13,15,16,17,19,103,104] fX ?_
   refine wL ?_
   refine hL2 _ _ ?_
   ·skip
    refine wN ?_
    refine wR0 3000 [4,5,7,9,10,11,13,15,16,17,19,103,104,150] fX ?_
    refine wF @hjn ?_
    refine wR0 3200 [4,5,7,9,10,11,13,15,16,17,103,104] fX ?_
    refine wRn 3300 [4,5,7,9,10,11,13,15,17,20,21,22,103,104] fX ?_
    refine rC fX ?_
    refine⟨_,hdo,rE fX ?_⟩
    refine wRn 3400 [4,5,7,9,10,11,13,15,17,22,23,24,103,104] fX ?_
    refine rC fX ?_
    refine⟨_,hcf,rE fX ?_⟩
    refine wRn 3500 [4,5,7,9,10,11,13,15,103,104,186] fX ?_
    refine rC fX ?_
    refine⟨_,hsm,rE fX ?_⟩
    refine wF fX ?_
    refine wR0 3700 [4,5,7,9,10,11,13,15,103,104] fX ?_
    refine wN ?_
    refine qay [99999,402,505,1304,1507,1902] (by simp[inL]) (by simp[inL,T.cl]) (by simp[qaf,inL,Slot.cl,T.cl,clL,hyc]) ?_
    simpa [qaf,inL] using hQ'
end
section
open Go.RowKit
set_option maxHeartbeats 2000000
attribute [local simp] qau qav qaD qaJ qa1 qbo qaB qah qaT qaO qak qax qc9 qaI qeh qoD
set_option maxHeartbeats 8000000 in
theorem qrg (s:List Int)(hs:∀j,0≤s.getD j 0∧s.getD j 0≤255)(hsl:s.length≤9223372036854775807)(hm:¬(mngs (prD (newD s)).1).length≤12):TP Tryz.prog 4 [.list (qbT s)] (.bool true):=by
 have hnew:=qey s hsl
 have hd:=qeu hs
 generalize newD s=d at*
 have hpr:=qeA d hd
 have hok:=(qd9 hd).1
 have hfit:=qez hd
 generalize (prD d).1=p at*
 generalize (prD d).2=d1 at*
 have hmod:=qcH p hfit
 rw[qd8,if_pos hok,if_neg hm] at hmod
 have hme:=qgh p hfit
 rw[qfN,if_pos hok,if_neg hm] at hme
 have hz:((1:Int) != 0)=true:=rfl
 have hz1:((1:Int)==1)=true:=rfl
 have hsn:=qcQ
 simp only[qar,pgC,qaA,mdC] at hpr hmod hme
 have fX:=(cJ3 @hz @hz1 @Bool.not_true)
 refine qag fn4 (by simp) ?_
 unfold i4
 simp only[argL]
 refine wR0 0 [0] fX ?_
 refine wRn 100 [0,28] fX ?_
 refine rC fX ?_
 refine⟨_,hsn,rE fX ?_⟩
 refine wF fX ?_
 refine wRn 300 [3] fX ?_
 refine rU [] [(99999,dcB d)] fX ?_
 refine⟨_,hnew,rE fX ?_⟩
 refine wRn 400 [3,4] fX ?_
 refine rU [(99999,dcB d)] [(99999,dcB d1)] fX ?_
 refine⟨_,hpr.fulD,rE fX ?_⟩
 refine wRn 500 [3,4,5,6] fX ?_
 refine rC fX ?_
 refine⟨_,hmod,rE fX ?_⟩
 refine wRn 600 [3,4,5,6,7,8] fX ?_
 refine rC fX ?_
 refine⟨_,hme,rE fX ?_⟩
 refine wR0 700 [3,4,5,6,7,8,56] fX ?_
 refine wT fX ?_
 refine wR0 800 [2] fX ?_
 refine wP ?_
 exact .same rfl
def cntC (p:Pg)(v:Int)(c:List Int)(r:Nat):Nat:=(((mngs p).take r).filter (canM p v c)).length
set_option maxHeartbeats 16000000 in
theorem qs1 (s:List Int)(hs:∀j,0≤s.getD j 0∧s.getD j 0≤255)(hsl:s.length≤9223372036854775807)(hm:(mngs (prD (newD s)).1).length≤12):TP Tryz.prog 4 [.list (qbT s)] (.bool true):=by
 have hnew:=qey s hsl
 have hd:=qeu hs
 generalize newD s=d at*
 have hpr:=qeA d hd
 have hok:=(qd9 hd).1
 have hd1:=(qd9 hd).2.1
 have hfit:=qez hd
 generalize (prD d).1=p at*
 generalize (prD d).2=d1 at*
 have hn0:=qgi hok
 have ho:=qbq hok
 have hmp:=qfM ho hm
 have hmod:=qcH p hfit
 rw[qd8,if_pos hok,if_pos hm] at hmod
 have hme:=qgh p hfit
 rw[qfN,if_pos hok,if_pos hm] at hme
 have hvp:1≤p.vals:=ho.vals.1
 have hpk:=qbN d1 hd1 p.vals hvp
 have hpv:=qa6 hd1 hvp
 have hd2:=qaL hd1 p.vals
 generalize (qao d1 p.vals).1=v at*
 generalize (qao d1 p.vals).2=d2 at*
 have hpp:=qcF p hfit hok
 have hpn:(qbe (plP p)).length=(plcs p).length:=by rw[qa0,qbV hok]
 have hR:qb3 (plcs p).length 2 d2=((qb3 (plcs p).length 2 d2).1,(qb3 (plcs p).length 2 d2).2):=rfl
 have hst:=qjX (p:=p) rfl (most:=2) (by omega) hpv hd2
 have hBl:=qes (plcs p).length 2 d2
 have hL:=fun Q hq=>qs2 p (mdl p) ((mngs p).map (fun x:Int×Ev=>x.2)) v (plcs p).length (by omega) _ Q hq (plcs p).length 0 [] d2 hd2 (by omega) rfl hR
 generalize (qb3 (plcs p).length 2 d2).1=B at*
 generalize (qb3 (plcs p).length 2 d2).2=d3 at*
 clear hR
 have hcf:=qc2 p hfit hok hm v B (by omega)
 rw[qgL,if_pos (hst.rgt hok (by omega))] at hcf
 have hsp:=qh1 p hfit hok v B (by omega)
 rw[qec,qeb,if_pos (hst.rgt hok (by omega))] at hsp
 have hLl:=qf2 ho v B
 have hsm:=qe6 ho hst.val B
 have hMl:((mngs p).map (fun x:Int×Ev=>x.2)).length=(mngs p).length:=List.length_map ..
 have hJn:cntC p v B (mngs p).length=(qaY p v B).length:=by rw[hsm,List.length_map,cntC,List.take_length]
 have hL1:=fun Q hq=>qs3 p (mdl p) ((mngs p).map (fun x:Int×Ev=>x.2)) (qaY p v B) v B (qaY p v B).length (mngs p).length rfl hMl (by omega) (by omega)
  (fun r=>qcn ((mdl p).rules.getD r rlZ) v B) (fun r=>(((mngs p).map (fun x:Int×Ev=>x.2)).getD r default).val) (fun r=>doC p B (((mngs p).map (fun x:Int×Ev=>x.2)).getD r default)) (cntC p v B)
  (fun r hr=>by
   have hap:=hmp.apply (q:=r) (by rw[qiL];exact hr) (s:=v) (v:=B) (by rw[qmS];have:=hst.val;omega) (hst.vec (by omega)) (hst.finv (by omega))
   rw[qoB] at hap
   split at hap
   ·rename_i hf
    obtain⟨e1,e2,e3,_,_⟩:=qgk hok hfit hr (B:=2) (by omega) hst hf
    rw[if_pos e1,e2,e3] at hap
    rw[if_pos hf];exact hap
   ·rename_i hf
    rw[if_neg hf];exact hap)
  (fun r hr hf=>by
   obtain⟨_,_,_,e4,e5⟩:=qgk hok hfit hr (B:=2) (by omega) hst hf
   exact qtB p hfit v B (hst.rgt hok (by omega)) _ e4 (fun j=>by have:=e5.ent j;omega))
  (fun r hr hf=>by
   obtain⟨_,_,_,_,e5⟩:=qgk hok hfit hr (B:=2) (by omega) hst hf
   have h:=qc2 p hfit hok hm (((mngs p).map (fun x:Int×Ev=>x.2)).getD r default).val (doC p B (((mngs p).map (fun x:Int×Ev=>x.2)).getD r default)) (by rw[e5.len];omega)
   rw[qgL,if_pos (e5.rgt hok (by omega))] at h
   exact h)
  (fun r hr hf=>by
   obtain⟨_,_,_,_,e5⟩:=qgk hok hfit hr (B:=2) (by omega) hst hf
   have h:=qqI (cfV (((mngs p).map (fun x:Int×Ev=>x.2)).getD r default).val (doC p B (((mngs p).map (fun x:Int×Ev=>x.2)).getD r default))) (cfV (((mngs p).map (fun x:Int×Ev=>x.2)).getD r default).val (doC p B (((mngs p).map (fun x:Int×Ev=>x.2)).getD r default))) (qct _ _ (by rw[e5.len];omega))
   rw[show qqG (cfV (((mngs p).map (fun x:Int×Ev=>x.2)).getD r default).val (doC p B (((mngs p).map (fun x:Int×Ev=>x.2)).getD r default))) (cfV (((mngs p).map (fun x:Int×Ev=>x.2)).getD r default).val (doC p B (((mngs p).map (fun x:Int×Ev=>x.2)).getD r default)))=true from by simp[qqG,qei]] at h
   exact h)
  (fun r hr=>by
   have h:=qlu (canM p v B) (mngs p) r hr
   have hcn:qcn ((mdl p).rules.getD r rlZ) v B=canM p v B (mngs p)[r]:=by
    rw[qlB hr rlZ (0,default),qeU (qjP ho hr (0,default)) r hst]
    rw[List.getD_eq_getElem?_getD,List.getElem?_eq_getElem hr,Option.getD_some]
   rw[hcn];exact h)
  (fun r hr hf=>by
   have hcn:qcn ((mdl p).rules.getD r rlZ) v B=canM p v B (mngs p)[r]:=by
    rw[qlB hr rlZ (0,default),qeU (qjP ho hr (0,default)) r hst]
    rw[List.getD_eq_getElem?_getD,List.getElem?_eq_getElem hr,Option.getD_some]
   rw[hcn] at hf
   have h:=qkm (canM p v B) (mngs p) r hr hf
   have hlt:=(List.getElem?_eq_some_iff.1 h).1
   refine⟨by rw[hsm,List.length_map];exact hlt,?_⟩
   rw[hsm,List.getD_eq_getElem?_getD,List.getElem?_map,cntC,h,Option.map_some,Option.getD_some,List.getD_eq_getElem?_getD,List.getElem?_map,List.getElem?_eq_getElem hr,Option.map_some,Option.getD_some]) Q hq (mngs p).length 0 (by omega)
 have hJ0:cntC p v B 0=0:=rfl
 rw[hJn,hJ0] at hL1
 have hLe:(qaG (qaY p v B)).length=(qaY p v B).length:=qbA _
 have hL3:=fun sa sb sc sd se Q hq=>qs5 (qaY p v B).length (by omega) sa sb sc sd se Q hq (qaY p v B).length 0 (by omega)
 have hMe:(qaG ((mngs p).map (fun x:Int×Ev=>x.2))).length=(mngs p).length:=by rw[qbA,hMl]
 have hrl:(qaR (mdl p).rules).length=(mngs p).length:=by rw[qaS,qiL]
 have hzn:(((mngs p).length:Int) != ((mngs p).length:Int))=false:=by simp
 have hnn:(((qaY p v B).length:Nat):Int).toNat=(qaY p v B).length:=by simp
 have hrp:repl (qaY p v B).length [T.bool false]=bF (qaY p v B).length 0:=(qtK _).symm
 have hFl:=qio (Nat.zero_le (qaY p v B).length)
 clear hsm hst hd hd1 hd2 hm hok ho hmp hJn hJ0 hMl
 generalize (qaY p v B)=L at*
 generalize (mngs p).map (fun x:Int×Ev=>x.2)=M at*
 generalize (mngs p).length=nr at*
 generalize L.length=nl at*
 generalize (plcs p).length=n at*
 generalize mdl p=m at*
 have hz:((0:Int) != 0)=false:=rfl
 have hsa:=qcQ
 obtain⟨z,zs,rfl⟩:∃z zs,B=z::zs:=by
  cases B with
  | nil=>simp at hBl;omega
  | cons z zs=>exact⟨z,zs,rfl⟩
 simp only[qrx] at hcf
 have hyc:∀E,clL E (cfL v (z::zs))=true:=fun E=>qeh E v _
 simp only[qar,pgC,qaA,mdC,rkE,rkH,rmE,rmH,qef,qee,List.cons_append,List.nil_append,List.append_nil,Int.natCast_zero] at hpr hmod hme hpp hL hL1 hL3 hcf hsp ⊢
 generalize cfL v (z::zs)=YS at*
 have fX:=(cJ8 @hz @hpn @Bool.not_true @hMe @hrl @hzn @hLe (cJ3 @hnn @hrp @hFl))
 refine qag fn4 (by simp) ?_
 unfold i4
 simp only[argL]
 refine wR0 0 [0] fX ?_
 refine wRn 100 [0,28] fX ?_
 refine rC fX ?_
 refine⟨_,hsa,rE fX ?_⟩
 refine wF fX ?_
 refine wRn 300 [3] fX ?_
 refine rU [] [(99999,dcB d)] fX ?_
 refine⟨_,hnew,rE fX ?_⟩
 refine wRn 400 [3,4] fX ?_
 refine rU [(99999,dcB d)] [(99999,dcB d1)] fX ?_
 refine⟨_,hpr.fulD,rE fX ?_⟩
 refine wRn 500 [3,4,5,6] fX ?_
 refine rC fX ?_
 refine⟨_,hmod,rE fX ?_⟩
 refine wRn 600 [3,4,5,6,7,8] fX ?_
 refine rC fX ?_
 refine⟨_,hme,rE fX ?_⟩
 refine wR0 700 [3,4,5,6,7,8,56] fX ?_
 refine wF fX ?_
 refine wRn 900 [3,4,5,7,9] fX ?_
 refine rU [(99999,dcB d1)] [(99999,dcB d2)] fX ?_
 refine⟨_,hpk.fulD,rE fX ?_⟩
 refine wR0 1000 [3,4,5,7,9,10] fX ?_
 refine wRn 1100 [3,4,5,7,9,10,69,70] fX ?_
 refine rC fX ?_
 refine⟨_,hpp,rE fX ?_⟩
 refine wL ?_
 refine hL _ ?_
 ·intro j
  refine wN ?_
  refine qbZ (l':=[(3,.undef),(4,.ref 402 2 0),(5,.ref 505 10 0),(7,.list (qaG M)),(9,.int .i64 v),(10,.list (qad (z::zs))),(69,.int .i64 (n:Int)),(70,.int .i64 j),(71,.bool false)]) (hl':=[(99999,.dead),(402,.live ⟨28,_⟩),(505,.live ⟨37,_⟩),(1304,.dead)]) [402,505] (.drop (.cons (.same rfl) (.cons (.same rfl) (.cons (.same (qaB _ _)) (.cons (.same rfl) (.cons (qcR (z::zs) rfl rfl rfl rfl) (.cons (.same rfl) (.cons (.same rfl) (.cons (.same rfl) .nil))))))))) (.dead rfl (fun h=>by cases h) (.keep rfl (.liveS (qaD _ p) (qa3 p)) (.keep rfl (.liveS (by simp[clL,T.cl]) (qcx rfl)) (.dead rfl (fun h=>by cases h) .nil)))) ?_
  refine wRn 1500 [4,5,7,9,10,11,12] fX ?_
  refine rC fX ?_
  refine⟨_,hcf,rE fX ?_⟩
  refine wRn 1600 [4,5,7,9,10,11,12,13,14] fX ?_
  refine rC fX ?_
  refine⟨_,hsp,rE fX ?_⟩
  refine wR0 1700 [4,5,7,9,10,11,13,97] fX ?_
  refine wF fX ?_
  refine wR0 1900 [4,5,7,9,10,11,13,15] fX ?_
  refine wR0 2000 [4,5,7,9,10,11,13,15,103,104] fX ?_
  refine wL ?_
  refine hL1 _ ?_
  ·intro j2
   refine wN ?_
   refine wR0 3800 [188,189,190] fX ?_
   refine wL ?_
   refine hL3 _ _ _ _ _ _ ?_
   ·intro j3
    refine wN ?_
    refine wR0 4400 [2] fX ?_
    refine wP ?_
    exact .same rfl
end
section
theorem qs6:∀s:List Int,(∀j,0≤s.getD j 0∧s.getD j 0≤255)→s.length≤9223372036854775807→TP Tryz.prog 4 [.list (qbT s)] (.bool true):=fun s hs hsl=>
 if hm:(mngs (prD (newD s)).1).length≤12 then qs1 s hs hsl hm else qrg s hs hsl hm
end
end Go.Proofs.YtkbjpglehdhjfaaGreatDoor
