/- Contracts of functions of the program, for all arguments that they name. -/
import Derived.Test.YtoeeppojakbciaaGreatK07
import Derived.Test.YtoeeppojakbciaaGreatK11
import Derived.Test.YtoeeppojakbciaaGreatK28
namespace Go.Proofs.YtoeeppojakbciaaGreat
set_option linter.unusedVariables false
section
open Go.RowKit
set_option maxHeartbeats 2000000
attribute [local simp] qae qlK qak
def qbI:Nat→Int→Dc→List Int×Dc
 | 0,_,d=>([],d)
 | n+1,most,d=>((qar d (most+1)).1::(qbI n most (qar d (most+1)).2).1,(qbI n most (qar d (most+1)).2).2)
theorem qc8:∀(n:Nat) (most:Int) (d:Dc),(qbI n most d).1.length=n
 | 0,_,_=>rfl
 | n+1,most,d=>by rw[qbI,List.length_cons,qc8 n]
theorem qcS:∀(n:Nat) (most:Int) (d:Dc),d.ok→(qbI n most d).2.ok
 | 0,_,_,h=>h
 | n+1,most,d,h=>qcS n most _ (qaQ h _)
theorem qdI:∀(n:Nat) (most:Int) (d:Dc),d.ok→0≤most→∀x∈(qbI n most d).1,0≤x∧x≤most
 | 0,_,_,_,_,x,hx=>by cases hx
 | n+1,most,d,h,hm,x,hx=>by
  rw[qbI] at hx
  rcases List.mem_cons.1 hx with rfl | hx
  ·have:=qa6 h (n:=most+1) (by omega);omega
  ·exact qdI n most _ (qaQ h _) hm x hx
set_option maxHeartbeats 4000000 in
theorem ints_l (n:Nat)(hn:n≤100000)(most:Int)(hm:0≤most∧most≤1000)(R:List Int×Dc)(Q:IExit→(Nat→T)→Heap→Prop)
 (hQ:∀j:Int,Q (.exit 0) (ofL [(0,dcR),(1,.int .i64 n),(2,.int .i64 most),(7,qb2 406 R.1),(8,.int .i64 j),(11,.bool false)]) (hpL ([(99999,dcB R.2)]++qb1 406 3 R.1))) :
 ∀(f i:Nat) (done:List Int) (d:Dc),d.ok→i+f=n→done.length=i→(done++(qbI f most d).1,(qbI f most d).2)=R→
 WL Tryz.prog 22 qjC (ofL [(0,dcR),(1,.int .i64 n),(2,.int .i64 most),(7,qb2 406 done),(8,.int .i64 i)]) (hpL ([(99999,dcB d)]++qb1 406 3 done)) Q:=by
 simp only[List.cons_append,List.nil_append] at hQ ⊢
 intro f
 induction f with
 | zero=>
  intro i done d hok hi hdn hR
  have hd:decide ((i:Int)<(n:Int))=false:=decide_eq_false (by omega)
  simp only[qbI,List.append_nil] at hR
  subst hR
  have fX:=@hd
  refine qaa qjC.eq_1 ?_
  refine wR0 300 [0,1,2,7,8,11] fX ?_
  refine wF @hd ?_
  refine wX ?_
  refine wN ?_
  exact hQ _
 | succ f ih=>
  intro i done d hok hi hdn hR
  have hd:decide ((i:Int)<(n:Int))=true:=decide_eq_true (by omega)
  have hw:IntKind.wrap .i64 ((i:Int)+1)=((i+1:Nat):Int):=by rw[wrap64 (by omega) (by omega)];rfl
  have hw2:IntKind.wrap .i64 (most+1)=most+1:=wrap64 (by omega) (by omega)
  have hpk:=qdr d hok (most+1) (by omega)
  have hQ':=ih (i+1) (done++[(qar d (most+1)).1]) (qar d (most+1)).2 (qaQ hok _) (by omega) (by simp[hdn]) (by rw[←hR];simp[qbI])
  cases done with
  | nil=>
   simp only[qb2,qb1,List.nil_append,List.length_nil] at hQ' ⊢
   have fX:=(cJ4 @hd @hw @hw2 @qaK)
   refine qaa qjC.eq_1 ?_
   refine W_gc ?_
   refine wR0 300 [0,1,2,7,8,11] fX ?_
   refine wT @hd ?_
   refine wRn 400 [0,1,2,7,8] fX ?_
   refine rU [(99999,dcB d)] [(99999,dcB (qar d (most+1)).2)] fX ?_
   refine⟨_,hpk.fulD,rE fX ?_⟩
   refine wR0 500 [0,1,2,7,8] fX ?_
   refine wN ?_
   refine qaP [99999,406] (by simp[inL]) (by simp[inL,T.cl]) (by simp[qan,inL,Slot.cl,T.cl,clL,qaF]) ?_
   simpa [qan,inL,qac] using hQ'
  | cons z zs=>
   have hlb:zs.length+1≤100000:=by simp at hdn;omega
   have he:(qac (z::zs)).length=zs.length+1:=by simp[qac]
   simp only[qb2,qb1,List.cons_append] at hQ' ⊢
   have fX:=(cJ5 @hd @hw @hw2 @qaK @he)
   refine qaa qjC.eq_1 ?_
   refine W_gc ?_
   refine wR0 300 [0,1,2,7,8,11] fX ?_
   refine wT @hd ?_
   refine wRn 400 [0,1,2,7,8] fX ?_
   refine rU [(99999,dcB d)] [(99999,dcB (qar d (most+1)).2)] fX ?_
   refine⟨_,hpk.fulD,rE fX ?_⟩
   refine wR0 500 [0,1,2,7,8] fX ?_
   refine wN ?_
   refine qaP [99999,406] (by simp[inL]) (by simp[inL,T.cl]) (by simp[qan,inL,Slot.cl,T.cl,clL,qap,qae,qaF]) ?_
   simpa [qan,inL,qac] using hQ'
theorem qkJ (n:Nat)(h0:0<n)(hn:n≤100000)(most:Int)(hm:0≤most∧most≤1000)(d:Dc)(hd:d.ok):TC Tryz.prog 24 [dcR,.int .i64 n,.int .i64 most] (hpL [(99999,dcB d)]) (.list (qac (qbI n most d).1)) (hpL [(99999,dcB (qbI n most d).2)]):=by
 obtain⟨R,hR⟩:∃R,qbI n most d=R:=⟨_,rfl⟩
 have hlen:=qc8 n most d
 have hL:=fun Q h=>ints_l n hn most hm R Q h n 0 [] d hd (by omega) rfl (by rw[←hR];rfl)
 rw[hR] at hlen ⊢
 obtain⟨xs,d'⟩:=R
 cases xs with
 | nil=>simp at hlen;omega
 | cons z zs=>
  simp only[qb2,qb1,List.cons_append,List.nil_append,List.append_nil] at hL ⊢
  refine qlr fn24 (by simp) ?_
  unfold i24
  simp only[argL]
  refine wR0 0 [0,1,2] cJ0 ?_
  refine wR0 100 [0,1,2,7] cJ0 ?_
  refine wR0 200 [0,1,2,7,8] cJ0 ?_
  refine wL ?_
  refine hL _ ?_
  ·intro j
   refine wN ?_
   refine wR0 600 [6] cJ0 ?_
   refine wE ?_
   refine wN ?_
   exact⟨by simp,_,_,_,rfl,rfl,qoI (z::zs) rfl rfl rfl rfl,.keep rfl (qgw d') (.dead rfl (fun h=>by cases h) .nil),rfl⟩
def flatK:List Int→List T
 | []=>[]
 | x::l=>.int .i64 x::.nil::flatK l
theorem qeR:∀l:List Int,(flatK l).length=l.length*2
 | []=>rfl
 | x::l=>by simp[flatK,qeR l];omega
@[simp] theorem qlJ (D:Nat→Bool):∀l:List Int,clL D (flatK l)=true
 | []=>rfl
 | x::l=>by simp[flatK,clL,T.cl,qlJ D l]
theorem qgD:∀(l:List Int) (x:Int),flatK l++[.int .i64 x,.nil]=flatK (l++[x])
 | [],x=>rfl
 | y::l,x=>by rw[List.cons_append,flatK,flatK,←qgD l x];rfl
theorem qjr {H:Heap}:∀(l:List Int) (k:Nat),k<l.length*2→Frz H ((flatK l).getD k .undef) ((qig (l.map natV)).getD k .undef)
 | [],k,h=>by simp at h
 | x::l,0,_=>.same rfl
 | x::l,1,_=>.nil
 | x::l,k+2,h=>by
  have:=qjr (H:=H) l k (by simp at h;omega)
  simpa [flatK,qig] using this
theorem qlO {H:Heap}{id ty n tot:Nat}(l:List Int)(hb:H id=.live ⟨ty,flatK l⟩)(hn:n=l.length)(ht:tot=l.length*2):Frz H (.sl id tot 2 0 n) (.list (qag (l.map natV))):=by
 subst hn ht
 refine Frz.sl hb (qeR l) (by simp[esz]) (by rw[qam,List.length_map]) (qjm _) (by rw[←qfn];exact qhE _) fun k hk=>?_
 rw[←qfn,Nat.zero_add]
 exact qjr l k hk
abbrev rcH (l:List Int):List (Nat×Slot):=[(0,.live ⟨31,[.int .i64 0,.nil]⟩),(102,.live ⟨31,flatK l⟩),(104,.live ⟨31,[.int .i64 0,.sl 102 (l.length*2) 2 0 l.length]⟩)]
set_option maxHeartbeats 4000000 in
theorem qpp (s:Int)(v:List Int)(hl:v.length≤100000)(Q:IExit→(Nat→T)→Heap→Prop)
 (hQ:∀j:Int,Q (.exit 0) (ofL [(1,.list (qac v)),(4,.ref 0 2 0),(5,.ref 104 2 0),(6,.int .i64 j),(14,.bool false)]) (hpL (rcH (s::v)))) :
 ∀(f i:Nat) (done:List Int),i+f=v.length→done=s::v.take i→
 WL Tryz.prog 28 qlV (ofL [(1,.list (qac v)),(4,.ref 0 2 0),(5,.ref 104 2 0),(6,.int .i64 i)]) (hpL (rcH done)) Q:=by
 simp only[rcH] at hQ ⊢
 intro f
 induction f with
 | zero=>
  intro i done hi hdn
  have hd:decide ((i:Int)<((qac v).length:Int))=false:=decide_eq_false (by rw[qad];omega)
  have e:done=s::v:=by rw[hdn,List.take_of_length_le (by omega)]
  subst e
  have fX:=@hd
  refine qaa qlV.eq_1 ?_
  refine wR0 300 [1,4,5,6,14] fX ?_
  refine wF @hd ?_
  refine wX ?_
  refine wN ?_
  exact hQ _
 | succ f ih=>
  intro i done hi hdn
  have hlt:(i:Int)<((qac v).length:Int):=by rw[qad];omega
  have hd:decide ((i:Int)<((qac v).length:Int))=true:=decide_eq_true hlt
  have hw:IntKind.wrap .i64 ((i:Int)+1)=((i+1:Nat):Int):=by rw[wrap64 (by omega) (by omega)];rfl
  have hg:=qaN v i (by omega)
  have hQ':=ih (i+1) (done++[v.getD i 0]) (by omega) (by
   rw[hdn,qcJ v i (by omega)];rfl)
  have hap:=qgD done (v.getD i 0)
  have hdl:done.length=i+1:=by rw[hdn,List.length_cons,List.length_take];omega
  have hfl:=qeR done
  have fX:=(cJ6 @hd @hw @hg @qaK @hap @hfl)
  refine qaa qlV.eq_1 ?_
  refine W_gc ?_
  refine wR0 300 [1,4,5,6,14] fX ?_
  refine wT @hd ?_
  refine wR0 400 [1,4,5,6] fX ?_
  refine wR0 500 [1,4,5,6] fX ?_
  refine wN ?_
  refine qaP [0,102,104] (by simp[inL]) (by simp[inL,T.cl,qae]) (by simp[qan,inL,Slot.cl,T.cl,clL]) ?_
  simpa [qan,inL,Nat.add_mul] using hQ'
theorem qnt (s:Int)(v:List Int)(hl:v.length≤100000):TP Tryz.prog 25 [.int .i64 s,.list (qac v)] (encV (cfV s v)):=by
 have hL:=fun Q h=>qpp s v hl Q h v.length 0 [s] (by omega) rfl
 rw[qa3]
 have hfz:∀H:Heap,H 102=.live ⟨31,flatK (s::v)⟩→Frz H (.agg [.int .i64 0,.sl 102 ((v.length+1)*2) 2 0 (v.length+1)]) (.agg [.int .i64 0,.list (encV (natV s)::qag (v.map natV))]):=fun H h=>
  Frz.aggL (.cons (.same (x:=.int .i64 0) rfl) (.cons (qlO (s::v) h rfl rfl) .nil)) rfl
 simp only[rcH,flatK,List.length_cons,List.length_nil] at hL
 have fX:=@qaK
 refine qah fn25 (by simp) ?_
 unfold i25
 simp only[argL,encV]
 refine wR0 0 [0,1,4] fX ?_
 refine wR0 100 [1,4,5] fX ?_
 refine wR0 200 [1,4,5,6] fX ?_
 refine wL ?_
 refine hL _ ?_
 ·intro j
  refine wN ?_
  refine wR0 600 [4] fX ?_
  refine wP ?_
  exact hfz _ rfl
end
section
open Go.RowKit
attribute [local simp] qae qak qaF
theorem qoC {A:Type}(f:A→List T)(W:Nat)(hf:∀a,(f a).length=W)(x0:A):∀(l:List A) (j k:Nat),j<l.length→k<W→(l.flatMap f).getD (j*W+k) .undef=(f (l.getD j x0)).getD k .undef
 | [],j,k,h,_=>by simp at h
 | x::l,0,k,_,hk=>by
  simp only[List.flatMap_cons,Nat.zero_mul,Nat.zero_add,List.getD_eq_getElem?_getD]
  rw[List.getElem?_append_left (by rw[hf];exact hk)]
  rfl
 | x::l,j+1,k,h,hk=>by
  have ih:=qoC f W hf x0 l j k (by simpa using h) hk
  have e:(x::l).getD (j+1) x0=l.getD j x0:=rfl
  rw[e,←ih]
  simp only[List.flatMap_cons,List.getD_eq_getElem?_getD]
  rw[List.getElem?_append_right (by rw[hf,Nat.add_mul];omega),hf]
  congr 2
  rw[Nat.add_mul];omega
theorem qjw {A:Type}(f:A→List T)(W:Nat)(hf:∀a,(f a).length=W)(l:List A):(l.flatMap f).length=l.length*W:=by
 induction l with
 | nil=>simp
 | cons x l ih=>rw[List.flatMap_cons,List.length_append,hf,ih,List.length_cons,Nat.add_mul];omega
theorem qih {A:Type}(g:A→List T)(W:Nat)(hW:2≤W)(hg:∀a,(g a).length=W):∀l:List A,flat (l.map fun a=>.agg (g a))=l.flatMap g
 | []=>rfl
 | x::l=>by rw[List.map_cons,qbn,qih g W hW hg l,List.flatMap_cons];rfl
theorem qlN {A:Type}(x0:A){H:Heap}{D:Nat→Bool}(f g:A→List T)(W id ty:Nat)(hW:2≤W)(hf:∀a,(f a).length=W)(hg:∀a,(g a).length=W)(h1:∀a,Ones (g a))(l:List A)(hd:D id=false)
 (h:∀a k,k<W→Fz H D ((f a).getD k .undef) ((g a).getD k .undef)) (hb:H id=.live ⟨ty,l.flatMap f⟩):Fz H D (.sl id (l.length*W) W 0 l.length) (.list (l.map fun a=>.agg (g a))):=by
 have he:esz W=W:=by unfold esz;split<;>omega
 refine .sl hb hd (qjw f W hf l) (by rw[he];omega) (by simp) (fun x hx=>?_) ?_ fun k hk=>?_
 ·obtain⟨a,_,rfl⟩:=List.mem_map.1 hx
  rw[he];exact hg a
 ·rw[qih g W hW hg]
  intro c hc
  obtain⟨a,_,hc⟩:=List.mem_flatMap.1 hc
  exact h1 a c hc
 ·rw[qih g W hW hg,Nat.zero_add]
  rw[he] at hk
  have hpos:0<W:=by omega
  have e:k=(k / W)*W+k % W:=by rw[Nat.mul_comm];exact (Nat.div_add_mod k W).symm
  have hj:k / W<l.length:=(Nat.div_lt_iff_lt_mul hpos).2 hk
  have hk2:k % W<W:=Nat.mod_lt _ hpos
  rw[e]
  simp only
  rw[qoC f W hf x0 l _ _ hj hk2,qoC g W hg x0 l _ _ hj hk2]
  exact h _ _ hk2
structure Cr where
 name:ByteArray
 from_:Int
 to_:Int
 need:List Int
 give:List Int
instance:Inhabited Cr:=⟨⟨⟨#[]⟩,0,0,[],[]⟩⟩
def Cr.rl (c:Cr):Rl:=⟨c.name,c.from_,c.to_,c.need,c.give,[],0,0,0,[],[],[],[],0⟩
def crC (c:Cr):List T:=[.str c.name,.int .i64 c.from_,.int .i64 c.to_,.list (qac c.need),.list (qac c.give),.nil,.int .i64 0,.int .i64 0,.int .i64 0,.nil,.nil,.nil,.nil,.int .i64 0]
theorem qom (D:Nat→Bool)(c:Cr):clL D (crC c)=true:=by simp[crC,clL,T.cl,qae]
theorem qlC (D:Nat→Bool)(l:List Cr):clL D (l.flatMap crC)=true:=by
 induction l with
 | nil=>rfl
 | cons x l ih=>rw[List.flatMap_cons,qap,qom,ih];rfl
theorem rlC_ones' (c:Cr):Ones (rlC c.rl):=fun x hx=>by
 simp only[rlC,Cr.rl,List.mem_cons,List.not_mem_nil,or_false] at hx
 rcases hx with rfl | rfl | rfl | rfl | rfl | rfl | rfl | rfl | rfl | rfl | rfl | rfl | rfl | rfl<;>rfl
theorem fz_crs {H:Heap}{D:Nat→Bool}{id:Nat}(l:List Cr)(hd:D id=false)(hb:H id=.live ⟨66,l.flatMap crC⟩):Fz H D (.sl id (l.length*14) 14 0 l.length) (.list (qaB (l.map Cr.rl))):=by
 have:=qlN (x0:=default) (H:=H) (D:=D) crC (fun c=>rlC c.rl) 14 id 66 (by omega) (fun _=>rfl) (fun _=>rfl) (fun c=>rlC_ones' c) l hd (fun c k hk=>?_) hb
 ·rw[qaB,List.map_map];exact this
 ·match k,hk with
  | 0,_=>exact .same rfl
  | 1,_=>exact .same rfl
  | 2,_=>exact .same rfl
  | 3,_=>exact .same (by show T.cl D (.list (qac c.need))=true;simp[T.cl,qae])
  | 4,_=>exact .same (by show T.cl D (.list (qac c.give))=true;simp[T.cl,qae])
  | 5,_=>exact .nil
  | 6,_=>exact .same rfl
  | 7,_=>exact .same rfl
  | 8,_=>exact .same rfl
  | 9,_=>exact .nil
  | 10,_=>exact .nil
  | 11,_=>exact .nil
  | 12,_=>exact .nil
  | 13,_=>exact .same rfl
end
section
open Go.RowKit
set_option maxHeartbeats 2000000
attribute [local simp] qae qak qaF qlC
def qkQ:Nat→ByteArray
 | 0=>⟨#[114]⟩
 | 1=>⟨#[115]⟩
 | _=>⟨#[116]⟩
def qfR (i ns n:Nat)(d:Dc):Cr×Dc:=
 (⟨qkQ i,(qar d ns).1,(qar (qar d ns).2 ns).1,(qbI n 2 (qar (qar d ns).2 ns).2).1,(qbI n 2 (qbI n 2 (qar (qar d ns).2 ns).2).2).1⟩,(qbI n 2 (qbI n 2 (qar (qar d ns).2 ns).2).2).2)
def qbH (ns n:Nat):Nat→Nat→List Cr→Dc→List Cr×Dc
 | 0,_,acc,d=>(acc,(qar d 3).2)
 | f+1,i,acc,d=>if (i:Int)<1+(qar d 3).1 then qbH ns n f (i+1) (acc++[(qfR i ns n (qar d 3).2).1]) (qfR i ns n (qar d 3).2).2 else (acc,(qar d 3).2)
def qrF (l:List Cr):T:=match l with
 | []=>.nil
 | _::l=>.sl 1104 ((l.length+1)*14) 14 0 (l.length+1)
def qrE (l:List Cr):List (Nat×Slot):=match l with
 | []=>[]
 | x::l=>[(1104,.live ⟨66,(x::l).flatMap crC⟩)]
abbrev qr0 (a b:ByteArray):Slot:=.live ⟨9,[.str a,.str b]⟩
abbrev mod0:List T:=[.int .i64 0,.nil,.nil,.nil,.nil,.int .i64 0,.int .i64 0,.nil,.int .i64 0,.nil]
def modC (a1 a2:Nat)(l:List Cr):List T:=[.int .i64 1,.sl 100 2 0 0 (1+a1),.sl 105 2 0 0 (1+a2),.nil,.nil,.int .i64 0,.int .i64 0,qrF l,.int .i64 0,.nil]
abbrev ctE (n i:Nat):List (Nat×T):=[(0,dcR),(1,.bool false),(4,.ref 0 10 0),(5,.ref 111 10 0),(6,.int .i64 n),(7,.int .i64 i)]
abbrev ctH (d:Dc)(a1 a2:Nat)(l:List Cr):List (Nat×Slot):=[(99999,dcB d),(0,.live ⟨33,mod0⟩),(100,qr0 ⟨#[97]⟩ ⟨#[98]⟩),(105,qr0 ⟨#[120]⟩ ⟨#[121]⟩),(111,.live ⟨33,modC a1 a2 l⟩)]++qrE l
set_option maxHeartbeats 8000000 in
theorem qok (a1 a2 n:Nat)(h1:a1≤1)(h2:a2≤1)(hn:n=1+a2)(R:List Cr×Dc)(Q:IExit→(Nat→T)→Heap→Prop)
 (hQ:∀i:Nat,Q (.exit 0) (ofL (ctE n i++[(28,.bool false)])) (hpL (ctH R.2 a1 a2 R.1))) :
 ∀(f i:Nat) (l:List Cr) (d:Dc),d.ok→i+f=3→l.length=i→qbH (1+a1) n f i l d=R→
 WL Tryz.prog 85 qnb (ofL (ctE n i)) (hpL (ctH d a1 a2 l)) Q:=by
 simp only[ctE,ctH,modC,List.cons_append,List.nil_append] at hQ ⊢
 intro f
 induction f with
 | zero=>
  intro i l d hok hi hl hR
  have hp:=qdr d hok 3 (by omega)
  have hr:=qa6 hok (n:=3) (by omega)
  have hw:IntKind.wrap .i64 (1+(qar d 3).1)=1+(qar d 3).1:=wrap64 (by omega) (by omega)
  have hd:decide ((i:Int)<1+(qar d 3).1)=false:=decide_eq_false (by omega)
  rw[qbH] at hR
  subst hR
  have fX:=(cJ2 @hd @hw)
  refine qaa qnb.eq_1 ?_
  refine wRn 400 [0,1,4,5,6,7,28] fX ?_
  refine rU [(99999,dcB d)] [(99999,dcB (qar d 3).2)] fX ?_
  refine⟨_,hp.fulD,rE fX ?_⟩
  refine wF @hd ?_
  refine wX ?_
  refine wN ?_
  exact hQ _
 | succ f ih=>
  intro i l d hok hi hl hR
  have hp:=qdr d hok 3 (by omega)
  have hr:=qa6 hok (n:=3) (by omega)
  have hw:IntKind.wrap .i64 (1+(qar d 3).1)=1+(qar d 3).1:=wrap64 (by omega) (by omega)
  rw[qbH] at hR
  by_cases hlt:(i:Int)<1+(qar d 3).1
  ·have hd:decide ((i:Int)<1+(qar d 3).1)=true:=decide_eq_true hlt
   rw[if_pos hlt] at hR
   have hok1:=qaQ hok 3
   obtain⟨d1,hd1⟩:∃d1,(qar d 3).2=d1:=⟨_,rfl⟩
   rw[hd1] at hok1 hR hp
   have hw1:IntKind.wrap .i64 ((i:Int)+1)=((i+1:Nat):Int):=by rw[wrap64 (by omega) (by omega)];rfl
   have hp1:=qdr d1 hok1 (1+a1:Nat) (by omega)
   have hok2:=qaQ hok1 (1+a1:Nat)
   have hp2:=qdr _ hok2 (1+a1:Nat) (by omega)
   have hok3:=qaQ hok2 (1+a1:Nat)
   have hi1:=qkJ n (by omega) (by omega) 2 (by omega) _ hok3
   have hok4:=qcS n 2 _ hok3
   obtain⟨I1,hI1⟩:∃I1,qbI n 2 (qar (qar d1 (1+a1:Nat)).2 (1+a1:Nat)).2=I1:=⟨_,rfl⟩
   rw[hI1] at hi1 hok4
   have hi2:=qkJ n (by omega) (by omega) 2 (by omega) _ hok4
   have hok5:=qcS n 2 _ hok4
   have hrd:qfR i (1+a1) n d1=(⟨qkQ i,(qar d1 (1+a1:Nat)).1,(qar (qar d1 (1+a1:Nat)).2 (1+a1:Nat)).1,I1.1,(qbI n 2 I1.2).1⟩,(qbI n 2 I1.2).2):=by rw[qfR,hI1]
   rw[hrd] at hR
   have hQ':=ih (i+1) _ _ hok5 (by omega) (by simp[hl]) hR
   have hi3:i<3:=by omega
   have hnm:List.take 1 (List.drop ((i:Int).toNat*1) [T.str ⟨#[114]⟩,.str ⟨#[115]⟩,.str ⟨#[116]⟩])=[.str (qkQ i)]:=by
    match i,hi3 with
    | 0,_=>rfl
    | 1,_=>rfl
    | 2,_=>rfl
   have hlt3:(i:Int)<3:=by omega
   have hr3:List.drop 1 (List.drop 1 (List.drop 1 (repl 3 [T.str ⟨#[]⟩])))=[]:=rfl
   cases l with
   | nil=>
    simp only[qrF,qrE,List.nil_append,List.append_nil,List.length_nil,List.flatMap_cons,List.flatMap_nil] at hQ' ⊢
    have fX:=(cJ6 @hd @hw @hw1 @hnm @hr3 @qaK)
    refine qaa qnb.eq_1 ?_
    refine W_gc ?_
    refine wRn 400 [0,1,4,5,6,7,28] fX ?_
    refine rU [(99999,dcB d)] [(99999,dcB d1)] fX ?_
    refine⟨_,hp.fulD,rE fX ?_⟩
    refine wT @hd ?_
    refine wRn 500 [0,1,4,5,6,7,8] fX ?_
    refine rU [(99999,dcB d1)] [(99999,dcB (qar d1 (1+a1:Nat)).2)] fX ?_
    refine⟨_,hp1.fulD,rN fX ?_⟩
    refine rU [(99999,dcB (qar d1 (1+a1:Nat)).2)] [(99999,dcB (qar (qar d1 (1+a1:Nat)).2 (1+a1:Nat)).2)] fX ?_
    refine⟨_,hp2.fulD,rN fX ?_⟩
    refine rU [(99999,dcB (qar (qar d1 (1+a1:Nat)).2 (1+a1:Nat)).2)] [(99999,dcB I1.2)] fX ?_
    refine⟨_,hi1.fulD,rN fX ?_⟩
    refine rU [(99999,dcB I1.2)] [(99999,dcB (qbI n 2 I1.2).2)] fX ?_
    refine⟨_,hi2.fulD,rE fX ?_⟩
    refine wR0 600 [0,1,4,5,6,7,8,57] fX ?_
    refine wF fX ?_
    refine wR0 1100 [0,1,4,5,6,7] fX ?_
    refine wR0 1200 [0,1,4,5,6,7] fX ?_
    refine wN ?_
    refine qaP [99999,0,100,105,111,1104] (by simp[inL]) (by simp[inL,T.cl]) (by simp[qan,inL,Slot.cl,T.cl,clL]) ?_
    simpa [qan,inL,crC] using hQ'
   | cons z zs=>
    have hlb:zs.length+1≤3:=by simp at hl;omega
    have he:((z::zs).flatMap crC).length=(zs.length+1)*14:=by rw[qjw crC 14 (fun _=>rfl)];rfl
    have hm:(zs.length+1+1)*14=(zs.length+1)*14+14:=by omega
    have hfa:∀c:Cr,(z::(zs++[c])).flatMap crC=(z::zs).flatMap crC++crC c:=fun c=>by simp[List.flatMap_append]
    simp only[qrF,qrE,List.cons_append,List.length_append,List.length_cons,List.length_nil,Nat.zero_add,hfa,hm] at hQ' ⊢
    have fX:=(cJ7 @hd @hw @hw1 @hnm @hr3 @qaK @he)
    refine qaa qnb.eq_1 ?_
    refine W_gc ?_
    refine wRn 400 [0,1,4,5,6,7,28] fX ?_
    refine rU [(99999,dcB d)] [(99999,dcB d1)] fX ?_
    refine⟨_,hp.fulD,rE fX ?_⟩
    refine wT @hd ?_
    refine wRn 500 [0,1,4,5,6,7,8] fX ?_
    refine rU [(99999,dcB d1)] [(99999,dcB (qar d1 (1+a1:Nat)).2)] fX ?_
    refine⟨_,hp1.fulD,rN fX ?_⟩
    refine rU [(99999,dcB (qar d1 (1+a1:Nat)).2)] [(99999,dcB (qar (qar d1 (1+a1:Nat)).2 (1+a1:Nat)).2)] fX ?_
    refine⟨_,hp2.fulD,rN fX ?_⟩
    refine rU [(99999,dcB (qar (qar d1 (1+a1:Nat)).2 (1+a1:Nat)).2)] [(99999,dcB I1.2)] fX ?_
    refine⟨_,hi1.fulD,rN fX ?_⟩
    refine rU [(99999,dcB I1.2)] [(99999,dcB (qbI n 2 I1.2).2)] fX ?_
    refine⟨_,hi2.fulD,rE fX ?_⟩
    refine wR0 600 [0,1,4,5,6,7,8,57] fX ?_
    refine wF fX ?_
    refine wR0 1100 [0,1,4,5,6,7] fX ?_
    refine wR0 1200 [0,1,4,5,6,7] fX ?_
    refine wN ?_
    refine qaP [99999,0,100,105,111,1104] (by simp[inL]) (by simp[inL,T.cl]) (by simp[qan,inL,Slot.cl,T.cl,clL,qap,qom,qlC]) ?_
    simpa [qan,inL,crC] using hQ'
  ·have hd:decide ((i:Int)<1+(qar d 3).1)=false:=decide_eq_false hlt
   rw[if_neg hlt] at hR
   subst hR
   have fX:=(cJ2 @hd @hw)
   refine qaa qnb.eq_1 ?_
   refine wRn 400 [0,1,4,5,6,7,28] fX ?_
   refine rU [(99999,dcB d)] [(99999,dcB (qar d 3).2)] fX ?_
   refine⟨_,hp.fulD,rE fX ?_⟩
   refine wF @hd ?_
   refine wX ?_
   refine wN ?_
   exact hQ _
end
section
open Go.RowKit
set_option maxHeartbeats 2000000
attribute [local simp] qae qak qaF qlC
def stN (a:Nat):List ByteArray:=[(⟨#[97]⟩:ByteArray),⟨#[98]⟩].take (1+a)
def plN (a:Nat):List ByteArray:=[(⟨#[120]⟩:ByteArray),⟨#[121]⟩].take (1+a)
def ctMd (a1 a2:Nat)(l:List Cr)(v:List Int):Md:=⟨1,stN a1,plN a2,[],[],0,0,l.map Cr.rl,cfV 0 v⟩
def ctD (d:Dc):(Nat×Nat×List Cr×List Int)×Dc:=
 let a1:=(qar d 2).1.toNat
 let a2:=(qar (qar d 2).2 2).1.toNat
 let R:=qbH (1+a1) (1+a2) 3 0 [] (qar (qar d 2).2 2).2
 ((a1,a2,R.1,(qbI (1+a2) 3 R.2).1),(qbI (1+a2) 3 R.2).2)
def qfl (d:Dc):Md:=ctMd (ctD d).1.1 (ctD d).1.2.1 (ctD d).1.2.2.1 (ctD d).1.2.2.2
theorem qe7 (ns n:Nat):∀(f i:Nat) (l:List Cr) (d:Dc),d.ok→(qbH ns n f i l d).2.ok
 | 0,_,_,d,h=>qaQ h 3
 | f+1,i,l,d,h=>by
  rw[qbH]
  split
  ·exact qe7 ns n f _ _ _ (qcS _ _ _ (qcS _ _ _ (qaQ (qaQ (qaQ h _) _) _)))
  ·exact qaQ h 3
theorem fz_st {H:Heap}{D:Nat→Bool}{id ty:Nat}(x y:ByteArray)(a:Nat)(ha:a≤1)(hd:D id=false)(hb:H id=.live ⟨ty,[.str x,.str y]⟩):Fz H D (.sl id 2 0 0 (1+a)) (.list (qau ([x,y].take (1+a)))):=by
 have:a=0∨a=1:=by omega
 rcases this with rfl | rfl
 ·refine .sl hb hd rfl (by simp[esz]) rfl (fun c hc=>?_) (fun c hc=>?_) fun k hk=>?_
  ·simp[qau] at hc;subst hc;rfl
  ·simp[qau,flat,T.cells] at hc;subst hc;rfl
  ·have:k=0:=by simpa [esz] using hk
   subst this;exact .same rfl
 ·refine .sl hb hd rfl (by simp[esz]) rfl (fun c hc=>?_) (fun c hc=>?_) fun k hk=>?_
  ·simp[qau] at hc;rcases hc with rfl | rfl<;>rfl
  ·simp[qau,flat,T.cells] at hc;rcases hc with rfl | rfl<;>rfl
  ·have:k<2:=by simpa [esz] using hk
   match k,this with
   | 0,_=>exact .same rfl
   | 1,_=>exact .same rfl
theorem fz_md {H:Heap}{D:Nat→Bool}(a1 a2:Nat)(h1:a1≤1)(h2:a2≤1)(z:Cr)(zs:List Cr)(v:List Int)(d0:D 100=false)(d1:D 105=false)(d2:D 1104=false)
 (hb0:H 100=qr0 ⟨#[97]⟩ ⟨#[98]⟩) (hb1:H 105=qr0 ⟨#[120]⟩ ⟨#[121]⟩) (hb2:H 1104=.live ⟨66,(z::zs).flatMap crC⟩) :
 Fz H D (.agg [.int .i64 1,.sl 100 2 0 0 (1+a1),.sl 105 2 0 0 (1+a2),.nil,.nil,.int .i64 0,.int .i64 0,.sl 1104 ((zs.length+1)*14) 14 0 (zs.length+1),.int .i64 0,.list (encV (natV 0)::qag (v.map natV))]) (qas (ctMd a1 a2 (z::zs) v)):=by
 refine .agg rfl (qce _) fun k hk=>?_
 match k,hk with
 | 0,_=>exact .same rfl
 | 1,_=>exact fz_st _ _ a1 h1 d0 hb0
 | 2,_=>exact fz_st _ _ a2 h2 d1 hb1
 | 3,_=>exact .nil
 | 4,_=>exact .nil
 | 5,_=>exact .same rfl
 | 6,_=>exact .same rfl
 | 7,_=>exact fz_crs (z::zs) d2 hb2
 | 8,_=>exact .same rfl
 | 9,_=>exact .same (by show T.cl D (.list (encV (natV 0)::qag (v.map natV)))=true;simp[T.cl,clL,qak,qca])
theorem qhR (ns n:Nat){d:Dc}(h:d.ok):(qbH ns n 3 0 [] d).1≠[]:=by
 have hr:=qa6 h (n:=3) (by omega)
 have hlen:∀(f i:Nat) (l:List Cr) (d:Dc),l.length≤(qbH ns n f i l d).1.length:=by
  intro f
  induction f with
  | zero=>intro i l d;exact Nat.le_refl _
  | succ f ih=>
   intro i l d
   rw[qbH]
   split
   ·have:=ih (i+1) (l++[(qfR i ns n (qar d 3).2).1]) (qfR i ns n (qar d 3).2).2
    simp at this;omega
   ·exact Nat.le_refl _
 rw[qbH,if_pos (by omega)]
 intro e
 have:=hlen 2 (0+1) ([]++[(qfR 0 ns n (qar d 3).2).1]) (qfR 0 ns n (qar d 3).2).2
 rw[e] at this
 simp at this
set_option maxHeartbeats 8000000 in
theorem qfk (d:Dc)(hd:d.ok):TC Tryz.prog 8 [dcR,.bool false] (hpL [(99999,dcB d)]) (qas (qfl d)) (hpL [(99999,dcB (ctD d).2)]):=by
 have hp1:=qdr d hd 2 (by omega)
 have hr1:=qa6 hd (n:=2) (by omega)
 have hok1:=qaQ hd 2
 have hp2:=qdr _ hok1 2 (by omega)
 have hr2:=qa6 hok1 (n:=2) (by omega)
 have hok2:=qaQ hok1 2
 obtain⟨a1,ha1⟩:=Int.eq_ofNat_of_zero_le hr1.1
 obtain⟨a2,ha2⟩:=Int.eq_ofNat_of_zero_le hr2.1
 have e:ctD d=((a1,a2,(qbH (1+a1) (1+a2) 3 0 [] (qar (qar d 2).2 2).2).1,(qbI (1+a2) 3 (qbH (1+a1) (1+a2) 3 0 [] (qar (qar d 2).2 2).2).2).1),(qbI (1+a2) 3 (qbH (1+a1) (1+a2) 3 0 [] (qar (qar d 2).2 2).2).2).2):=by
  simp only[ctD,ha1,ha2,Int.toNat_natCast]
 rw[qfl,e]
 simp only
 have hrp:=qhR (1+a1) (1+a2) hok2
 have hrok:=qe7 (1+a1) (1+a2) 3 0 [] _ hok2
 rw[ha1] at hr1 hp1
 rw[ha2] at hr2 hp2
 have h1:a1≤1:=by omega
 have h2:a2≤1:=by omega
 obtain⟨e2,he2⟩:∃e2,(qar (qar d 2).2 2).2=e2:=⟨_,rfl⟩
 rw[he2] at hp2 hok2 hrp hrok ⊢
 obtain⟨R,hR⟩:∃R,qbH (1+a1) (1+a2) 3 0 [] e2=R:=⟨_,rfl⟩
 have hL:=fun Q h=>qok a1 a2 (1+a2) h1 h2 rfl R Q h 3 0 [] e2 hok2 rfl rfl hR
 rw[hR] at hrp hrok ⊢
 obtain⟨L,d3⟩:=R
 cases L with
 | nil=>exact absurd rfl hrp
 | cons z zs=>
  have hin:=qkJ (1+a2) (by omega) (by omega) 3 (by omega) d3 hrok
  have hcf:=qnt 0 (qbI (1+a2) 3 d3).1 (by rw[qc8];omega)
  rw[qa3] at hcf
  have hw1:IntKind.wrap .i64 (1+(a1:Int))=((1+a1:Nat):Int):=by rw[wrap64 (by omega) (by omega)];simp
  have hw2:IntKind.wrap .i64 (1+(a2:Int))=((1+a2:Nat):Int):=by rw[wrap64 (by omega) (by omega)];simp
  have hr2':List.drop 1 (List.drop 1 (repl 2 [T.str ⟨#[]⟩]))=[]:=rfl
  have hz1:(if 0=((1+a1:Nat):Int).toNat then T.list [] else T.sl 100 2 0 0 (((1+a1:Nat):Int).toNat - 0))=T.sl 100 2 0 0 (1+a1):=by rw[if_neg (by omega),Int.toNat_natCast,Nat.sub_zero]
  have hz2:(if 0=((1+a2:Nat):Int).toNat then T.list [] else T.sl 105 2 0 0 (((1+a2:Nat):Int).toNat - 0))=T.sl 105 2 0 0 (1+a2):=by rw[if_neg (by omega),Int.toNat_natCast,Nat.sub_zero]
  have hb1:1+a1≤2:=by omega
  have hb2:1+a2≤2:=by omega
  generalize (qbI (1+a2) 3 d3).1=v at*
  generalize (qbI (1+a2) 3 d3).2=d4 at*
  generalize (qar d 2).2=d2 at*
  simp only[ctE,ctH,modC,qrF,qrE,List.cons_append,List.nil_append,List.append_nil] at hL
  have fX:=(cJ7 @hw1 @hw2 @hr2' @hz1 @hz2 @hb1 @hb2)
  refine qlr fn8 (by simp) ?_
  unfold i8
  simp only[argL]
  refine wR0 0 [0,1,4] fX ?_
  refine wRn 100 [0,1,4,5] fX ?_
  refine rU [(99999,dcB d)] [(99999,dcB d2)] fX ?_
  refine⟨_,hp1.fulD,rN fX ?_⟩
  refine rU [(99999,dcB d2)] [(99999,dcB e2)] fX ?_
  refine⟨_,hp2.fulD,rE fX ?_⟩
  refine wR0 200 [0,1,4,5,6] fX ?_
  refine wR0 300 [0,1,4,5,6,7] fX ?_
  refine wL ?_
  refine hL _ ?_
  ·intro i
   refine wN ?_
   refine wRn 1300 [4,5] fX ?_
   refine rU [(99999,dcB d3)] [(99999,dcB d4)] fX ?_
   refine⟨_,hin.fulD,rN fX ?_⟩
   refine rC fX ?_
   refine⟨_,hcf,rE fX ?_⟩
   refine wR0 1400 [4] fX ?_
   refine wE ?_
   refine wN ?_
   exact⟨by simp,_,_,_,rfl,rfl,fz_md a1 a2 h1 h2 z zs v rfl rfl rfl rfl rfl rfl,.keep rfl (qgw d4) (.dead rfl (fun h=>by cases h) (.dead rfl (fun h=>by cases h) (.dead rfl (fun h=>by cases h) (.dead rfl (fun h=>by cases h) (.dead rfl (fun h=>by cases h) .nil))))),rfl⟩
end
end Go.Proofs.YtoeeppojakbciaaGreat
