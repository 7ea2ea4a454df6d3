/- Contracts of functions of the program, for all arguments that they name. -/
import Derived.Test.YtncpdpbpcnoeeaaGreatK04
import Derived.Test.YtncpdpbpcnoeeaaGreatK08
import Derived.Test.YtncpdpbpcnoeeaaGreatK23
namespace Go.Proofs.YtncpdpbpcnoeeaaGreat
set_option linter.unusedVariables false
section
open Go.RowKit
set_option maxHeartbeats 2000000
attribute [local simp] qae qjo qaz
def qbn:Nat→Int→Dc→List Int×Dc
 | 0,_,d=>([],d)
 | n+1,most,d=>((qaq d (most+1)).1::(qbn n most (qaq d (most+1)).2).1,(qbn n most (qaq d (most+1)).2).2)
theorem qcs:∀(n:Nat) (most:Int) (d:Dc),(qbn n most d).1.length=n
 | 0,_,_=>rfl
 | n+1,most,d=>by rw[qbn,List.length_cons,qcs n]
theorem qcd:∀(n:Nat) (most:Int) (d:Dc),d.ok→(qbn n most d).2.ok
 | 0,_,_,h=>h
 | n+1,most,d,h=>qcd n most _ (qaQ h _)
theorem qdV:∀(n:Nat) (most:Int) (d:Dc),d.ok→0≤most→∀x∈(qbn n most d).1,0≤x∧x≤most
 | 0,_,_,_,_,x,hx=>by cases hx
 | n+1,most,d,h,hm,x,hx=>by
  rw[qbn] at hx
  rcases List.mem_cons.1 hx with rfl | hx
  ·have:=qbi h (n:=most+1) (by omega);omega
  ·exact qdV n most _ (qaQ h _) hm x hx
set_option maxHeartbeats 4000000 in
theorem ints_l (n:Nat)(hn:n≤100000)(most:Int)(hm:0≤most∧most≤1000)(R:List Int×Dc)(Q:IExit→(Nat→T)→Heap→Prop)
 (hQ:∀j:Int,Q (.exit 0) (ofL [(0,dcR),(1,.int .i64 n),(2,.int .i64 most),(7,qb0 406 R.1),(8,.int .i64 j),(11,.bool false)]) (hpL ([(99999,dcB R.2)]++qbZ 406 3 R.1))) :
 ∀(f i:Nat) (done:List Int) (d:Dc),d.ok→i+f=n→done.length=i→(done++(qbn f most d).1,(qbn f most d).2)=R→
 WL Tryz.prog 22 qhI (ofL [(0,dcR),(1,.int .i64 n),(2,.int .i64 most),(7,qb0 406 done),(8,.int .i64 i)]) (hpL ([(99999,dcB d)]++qbZ 406 3 done)) Q:=by
 simp only[List.cons_append,List.nil_append] at hQ ⊢
 intro f
 induction f with
 | zero=>
  intro i done d hok hi hdn hR
  have hd:decide ((i:Int)<(n:Int))=false:=decide_eq_false (by omega)
  simp only[qbn,List.append_nil] at hR
  subst hR
  have fX:=@hd
  refine qaa qhI.eq_1 ?_
  refine wR0 300 [0,1,2,7,8,11] fX ?_
  refine wF @hd ?_
  refine wX ?_
  refine wN ?_
  exact hQ _
 | succ f ih=>
  intro i done d hok hi hdn hR
  have hd:decide ((i:Int)<(n:Int))=true:=decide_eq_true (by omega)
  have hw:IntKind.wrap .i64 ((i:Int)+1)=((i+1:Nat):Int):=by rw[wrap64 (by omega) (by omega)];rfl
  have hw2:IntKind.wrap .i64 (most+1)=most+1:=wrap64 (by omega) (by omega)
  have hpk:=qdD d hok (most+1) (by omega)
  have hQ':=ih (i+1) (done++[(qaq d (most+1)).1]) (qaq d (most+1)).2 (qaQ hok _) (by omega) (by simp[hdn]) (by rw[←hR];simp[qbn])
  cases done with
  | nil=>
   simp only[qb0,qbZ,List.nil_append,List.length_nil] at hQ' ⊢
   have fX:=(cJ4 @hd @hw @hw2 @qaK)
   refine qaa qhI.eq_1 ?_
   refine W_gc ?_
   refine wR0 300 [0,1,2,7,8,11] fX ?_
   refine wT @hd ?_
   refine wRn 400 [0,1,2,7,8] fX ?_
   refine rU [(99999,dcB d)] [(99999,dcB (qaq d (most+1)).2)] fX ?_
   refine⟨_,hpk.fulD,rE fX ?_⟩
   refine wR0 500 [0,1,2,7,8] fX ?_
   refine wN ?_
   refine qaT [99999,406] (by simp[inL]) (by simp[inL,T.cl]) (by simp[qak,inL,Slot.cl,T.cl,clL,qbD]) ?_
   simpa [qak,inL,qab] using hQ'
  | cons z zs=>
   have hlb:zs.length+1≤100000:=by simp at hdn;omega
   have he:(qab (z::zs)).length=zs.length+1:=by simp[qab]
   simp only[qb0,qbZ,List.cons_append] at hQ' ⊢
   have fX:=(cJ5 @hd @hw @hw2 @qaK @he)
   refine qaa qhI.eq_1 ?_
   refine W_gc ?_
   refine wR0 300 [0,1,2,7,8,11] fX ?_
   refine wT @hd ?_
   refine wRn 400 [0,1,2,7,8] fX ?_
   refine rU [(99999,dcB d)] [(99999,dcB (qaq d (most+1)).2)] fX ?_
   refine⟨_,hpk.fulD,rE fX ?_⟩
   refine wR0 500 [0,1,2,7,8] fX ?_
   refine wN ?_
   refine qaT [99999,406] (by simp[inL]) (by simp[inL,T.cl]) (by simp[qak,inL,Slot.cl,T.cl,clL,qan,qae,qbD]) ?_
   simpa [qak,inL,qab] using hQ'
theorem qiD (n:Nat)(h0:0<n)(hn:n≤100000)(most:Int)(hm:0≤most∧most≤1000)(d:Dc)(hd:d.ok):TC Tryz.prog 25 [dcR,.int .i64 n,.int .i64 most] (hpL [(99999,dcB d)]) (.list (qab (qbn n most d).1)) (hpL [(99999,dcB (qbn n most d).2)]):=by
 obtain⟨R,hR⟩:∃R,qbn n most d=R:=⟨_,rfl⟩
 have hlen:=qcs n most d
 have hL:=fun Q h=>ints_l n hn most hm R Q h n 0 [] d hd (by omega) rfl (by rw[←hR];rfl)
 rw[hR] at hlen ⊢
 obtain⟨xs,d'⟩:=R
 cases xs with
 | nil=>simp at hlen;omega
 | cons z zs=>
  simp only[qb0,qbZ,List.cons_append,List.nil_append,List.append_nil] at hL ⊢
  refine qoR fn25 (by simp) ?_
  unfold i25
  simp only[argL]
  refine wR0 0 [0,1,2] cJ0 ?_
  refine wR0 100 [0,1,2,7] cJ0 ?_
  refine wR0 200 [0,1,2,7,8] cJ0 ?_
  refine wL ?_
  refine hL _ ?_
  ·intro j
   refine wN ?_
   refine wR0 600 [6] cJ0 ?_
   refine wE ?_
   refine wN ?_
   exact⟨by simp,_,_,_,rfl,rfl,qlW (z::zs) rfl rfl rfl rfl,.keep rfl (qo0 d') (.dead rfl (fun h=>by cases h) .nil),rfl⟩
def flatK:List Int→List T
 | []=>[]
 | x::l=>.int .i64 x::.nil::flatK l
theorem qfh:∀l:List Int,(flatK l).length=l.length*2
 | []=>rfl
 | x::l=>by simp[flatK,qfh l];omega
@[simp] theorem qnE (D:Nat→Bool):∀l:List Int,clL D (flatK l)=true
 | []=>rfl
 | x::l=>by simp[flatK,clL,T.cl,qnE D l]
theorem qhz:∀(l:List Int) (x:Int),flatK l++[.int .i64 x,.nil]=flatK (l++[x])
 | [],x=>rfl
 | y::l,x=>by rw[List.cons_append,flatK,flatK,←qhz l x];rfl
theorem qhA {H:Heap}:∀(l:List Int) (k:Nat),k<l.length*2→Frz H ((flatK l).getD k .undef) ((qgC (l.map natV)).getD k .undef)
 | [],k,h=>by simp at h
 | x::l,0,_=>.same rfl
 | x::l,1,_=>.nil
 | x::l,k+2,h=>by
  have:=qhA (H:=H) l k (by simp at h;omega)
  simpa [flatK,qgC] using this
theorem qnJ {H:Heap}{id ty n tot:Nat}(l:List Int)(hb:H id=.live ⟨ty,flatK l⟩)(hn:n=l.length)(ht:tot=l.length*2):Frz H (.sl id tot 2 0 n) (.list (qaj (l.map natV))):=by
 subst hn ht
 refine Frz.sl hb (qfh l) (by simp[esz]) (by rw[qat,List.length_map]) (qhu _) (by rw[←qej];exact qf7 _) fun k hk=>?_
 rw[←qej,Nat.zero_add]
 exact qhA l k hk
abbrev rcH (l:List Int):List (Nat×Slot):=[(0,.live ⟨31,[.int .i64 0,.nil]⟩),(102,.live ⟨31,flatK l⟩),(104,.live ⟨31,[.int .i64 0,.sl 102 (l.length*2) 2 0 l.length]⟩)]
set_option maxHeartbeats 4000000 in
theorem qmD (s:Int)(v:List Int)(hl:v.length≤100000)(Q:IExit→(Nat→T)→Heap→Prop)
 (hQ:∀j:Int,Q (.exit 0) (ofL [(1,.list (qab v)),(4,.ref 0 2 0),(5,.ref 104 2 0),(6,.int .i64 j),(14,.bool false)]) (hpL (rcH (s::v)))) :
 ∀(f i:Nat) (done:List Int),i+f=v.length→done=s::v.take i→
 WL Tryz.prog 28 qjw (ofL [(1,.list (qab v)),(4,.ref 0 2 0),(5,.ref 104 2 0),(6,.int .i64 i)]) (hpL (rcH done)) Q:=by
 simp only[rcH] at hQ ⊢
 intro f
 induction f with
 | zero=>
  intro i done hi hdn
  have hd:decide ((i:Int)<((qab v).length:Int))=false:=decide_eq_false (by rw[qac];omega)
  have e:done=s::v:=by rw[hdn,List.take_of_length_le (by omega)]
  subst e
  have fX:=@hd
  refine qaa qjw.eq_1 ?_
  refine wR0 300 [1,4,5,6,14] fX ?_
  refine wF @hd ?_
  refine wX ?_
  refine wN ?_
  exact hQ _
 | succ f ih=>
  intro i done hi hdn
  have hlt:(i:Int)<((qab v).length:Int):=by rw[qac];omega
  have hd:decide ((i:Int)<((qab v).length:Int))=true:=decide_eq_true hlt
  have hw:IntKind.wrap .i64 ((i:Int)+1)=((i+1:Nat):Int):=by rw[wrap64 (by omega) (by omega)];rfl
  have hg:=qaE v i (by omega)
  have hQ':=ih (i+1) (done++[v.getD i 0]) (by omega) (by
   rw[hdn,qc6 v i (by omega)];rfl)
  have hap:=qhz done (v.getD i 0)
  have hdl:done.length=i+1:=by rw[hdn,List.length_cons,List.length_take];omega
  have hfl:=qfh done
  have fX:=(cJ6 @hd @hw @hg @qaK @hap @hfl)
  refine qaa qjw.eq_1 ?_
  refine W_gc ?_
  refine wR0 300 [1,4,5,6,14] fX ?_
  refine wT @hd ?_
  refine wR0 400 [1,4,5,6] fX ?_
  refine wR0 500 [1,4,5,6] fX ?_
  refine wN ?_
  refine qaT [0,102,104] (by simp[inL]) (by simp[inL,T.cl,qae]) (by simp[qak,inL,Slot.cl,T.cl,clL]) ?_
  simpa [qak,inL,Nat.add_mul] using hQ'
theorem qkK (s:Int)(v:List Int)(hl:v.length≤100000):TP Tryz.prog 26 [.int .i64 s,.list (qab v)] (encV (cfV s v)):=by
 have hL:=fun Q h=>qmD s v hl Q h v.length 0 [s] (by omega) rfl
 rw[qgs]
 have hfz:∀H:Heap,H 102=.live ⟨31,flatK (s::v)⟩→Frz H (.agg [.int .i64 0,.sl 102 ((v.length+1)*2) 2 0 (v.length+1)]) (.agg [.int .i64 0,.list (encV (natV s)::qaj (v.map natV))]):=fun H h=>
  Frz.aggL (.cons (.same (x:=.int .i64 0) rfl) (.cons (qnJ (s::v) h rfl rfl) .nil)) rfl
 simp only[rcH,flatK,List.length_cons,List.length_nil] at hL
 have fX:=@qaK
 refine qai fn26 (by simp) ?_
 unfold i26
 simp only[argL,encV]
 refine wR0 0 [0,1,4] fX ?_
 refine wR0 100 [1,4,5] fX ?_
 refine wR0 200 [1,4,5,6] fX ?_
 refine wL ?_
 refine hL _ ?_
 ·intro j
  refine wN ?_
  refine wR0 600 [4] fX ?_
  refine wP ?_
  exact hfz _ rfl
end
section
open Go.RowKit
attribute [local simp] qae qaz qbD
theorem qlQ {A:Type}(f:A→List T)(W:Nat)(hf:∀a,(f a).length=W)(x0:A):∀(l:List A) (j k:Nat),j<l.length→k<W→(l.flatMap f).getD (j*W+k) .undef=(f (l.getD j x0)).getD k .undef
 | [],j,k,h,_=>by simp at h
 | x::l,0,k,_,hk=>by
  simp only[List.flatMap_cons,Nat.zero_mul,Nat.zero_add,List.getD_eq_getElem?_getD]
  rw[List.getElem?_append_left (by rw[hf];exact hk)]
  rfl
 | x::l,j+1,k,h,hk=>by
  have ih:=qlQ f W hf x0 l j k (by simpa using h) hk
  have e:(x::l).getD (j+1) x0=l.getD j x0:=rfl
  rw[e,←ih]
  simp only[List.flatMap_cons,List.getD_eq_getElem?_getD]
  rw[List.getElem?_append_right (by rw[hf,Nat.add_mul];omega),hf]
  congr 2
  rw[Nat.add_mul];omega
theorem qo3 {A:Type}(f:A→List T)(W:Nat)(hf:∀a,(f a).length=W)(l:List A):(l.flatMap f).length=l.length*W:=by
 induction l with
 | nil=>simp
 | cons x l ih=>rw[List.flatMap_cons,List.length_append,hf,ih,List.length_cons,Nat.add_mul];omega
theorem qiA {A:Type}(g:A→List T)(W:Nat)(hW:2≤W)(hg:∀a,(g a).length=W):∀l:List A,flat (l.map fun a=>.agg (g a))=l.flatMap g
 | []=>rfl
 | x::l=>by rw[List.map_cons,qa2,qiA g W hW hg l,List.flatMap_cons];rfl
theorem qnI {A:Type}(x0:A){H:Heap}{D:Nat→Bool}(f g:A→List T)(W id ty:Nat)(hW:2≤W)(hf:∀a,(f a).length=W)(hg:∀a,(g a).length=W)(h1:∀a,Ones (g a))(l:List A)(hd:D id=false)
 (h:∀a k,k<W→Fz H D ((f a).getD k .undef) ((g a).getD k .undef)) (hb:H id=.live ⟨ty,l.flatMap f⟩):Fz H D (.sl id (l.length*W) W 0 l.length) (.list (l.map fun a=>.agg (g a))):=by
 have he:esz W=W:=by unfold esz;split<;>omega
 refine .sl hb hd (qo3 f W hf l) (by rw[he];omega) (by simp) (fun x hx=>?_) ?_ fun k hk=>?_
 ·obtain⟨a,_,rfl⟩:=List.mem_map.1 hx
  rw[he];exact hg a
 ·rw[qiA g W hW hg]
  intro c hc
  obtain⟨a,_,hc⟩:=List.mem_flatMap.1 hc
  exact h1 a c hc
 ·rw[qiA g W hW hg,Nat.zero_add]
  rw[he] at hk
  have hpos:0<W:=by omega
  have e:k=(k / W)*W+k % W:=by rw[Nat.mul_comm];exact (Nat.div_add_mod k W).symm
  have hj:k / W<l.length:=(Nat.div_lt_iff_lt_mul hpos).2 hk
  have hk2:k % W<W:=Nat.mod_lt _ hpos
  rw[e]
  simp only
  rw[qlQ f W hf x0 l _ _ hj hk2,qlQ g W hg x0 l _ _ hj hk2]
  exact h _ _ hk2
structure Cr where
 name:ByteArray
 from_:Int
 to_:Int
 need:List Int
 give:List Int
instance:Inhabited Cr:=⟨⟨⟨#[]⟩,0,0,[],[]⟩⟩
def Cr.rl (c:Cr):Rl:=⟨c.name,c.from_,c.to_,c.need,c.give,[],0,0,0,[],[],[],[],0⟩
def crC (c:Cr):List T:=[.str c.name,.int .i64 c.from_,.int .i64 c.to_,.list (qab c.need),.list (qab c.give),.nil,.int .i64 0,.int .i64 0,.int .i64 0,.nil,.nil,.nil,.nil,.int .i64 0]
theorem qlA (D:Nat→Bool)(c:Cr):clL D (crC c)=true:=by simp[crC,clL,T.cl,qae]
theorem qjj (D:Nat→Bool)(l:List Cr):clL D (l.flatMap crC)=true:=by
 induction l with
 | nil=>rfl
 | cons x l ih=>rw[List.flatMap_cons,qan,qlA,ih];rfl
theorem rlC_ones' (c:Cr):Ones (rlC c.rl):=fun x hx=>by
 simp only[rlC,Cr.rl,List.mem_cons,List.not_mem_nil,or_false] at hx
 rcases hx with rfl | rfl | rfl | rfl | rfl | rfl | rfl | rfl | rfl | rfl | rfl | rfl | rfl | rfl<;>rfl
theorem fz_crs {H:Heap}{D:Nat→Bool}{id:Nat}(l:List Cr)(hd:D id=false)(hb:H id=.live ⟨66,l.flatMap crC⟩):Fz H D (.sl id (l.length*14) 14 0 l.length) (.list (qaC (l.map Cr.rl))):=by
 have:=qnI (x0:=default) (H:=H) (D:=D) crC (fun c=>rlC c.rl) 14 id 66 (by omega) (fun _=>rfl) (fun _=>rfl) (fun c=>rlC_ones' c) l hd (fun c k hk=>?_) hb
 ·rw[qaC,List.map_map];exact this
 ·match k,hk with
  | 0,_=>exact .same rfl
  | 1,_=>exact .same rfl
  | 2,_=>exact .same rfl
  | 3,_=>exact .same (by show T.cl D (.list (qab c.need))=true;simp[T.cl,qae])
  | 4,_=>exact .same (by show T.cl D (.list (qab c.give))=true;simp[T.cl,qae])
  | 5,_=>exact .nil
  | 6,_=>exact .same rfl
  | 7,_=>exact .same rfl
  | 8,_=>exact .same rfl
  | 9,_=>exact .nil
  | 10,_=>exact .nil
  | 11,_=>exact .nil
  | 12,_=>exact .nil
  | 13,_=>exact .same rfl
end
section
open Go.RowKit
set_option maxHeartbeats 2000000
attribute [local simp] qae qaz qbD qjj
def qiH:Nat→ByteArray
 | 0=>⟨#[114]⟩
 | 1=>⟨#[115]⟩
 | _=>⟨#[116]⟩
def qeF (i ns n:Nat)(d:Dc):Cr×Dc:=
 (⟨qiH i,(qaq d ns).1,(qaq (qaq d ns).2 ns).1,(qbn n 2 (qaq (qaq d ns).2 ns).2).1,(qbn n 2 (qbn n 2 (qaq (qaq d ns).2 ns).2).2).1⟩,(qbn n 2 (qbn n 2 (qaq (qaq d ns).2 ns).2).2).2)
def qbp (ns n:Nat):Nat→Nat→List Cr→Dc→List Cr×Dc
 | 0,_,acc,d=>(acc,(qaq d 3).2)
 | f+1,i,acc,d=>if (i:Int)<1+(qaq d 3).1 then qbp ns n f (i+1) (acc++[(qeF i ns n (qaq d 3).2).1]) (qeF i ns n (qaq d 3).2).2 else (acc,(qaq d 3).2)
def qos (l:List Cr):T:=match l with
 | []=>.nil
 | _::l=>.sl 1104 ((l.length+1)*14) 14 0 (l.length+1)
def qor (l:List Cr):List (Nat×Slot):=match l with
 | []=>[]
 | x::l=>[(1104,.live ⟨66,(x::l).flatMap crC⟩)]
abbrev qoM (a b:ByteArray):Slot:=.live ⟨9,[.str a,.str b]⟩
abbrev mod0:List T:=[.int .i64 0,.nil,.nil,.nil,.nil,.int .i64 0,.int .i64 0,.nil,.int .i64 0,.nil]
def modC (a1 a2:Nat)(l:List Cr):List T:=[.int .i64 1,.sl 100 2 0 0 (1+a1),.sl 105 2 0 0 (1+a2),.nil,.nil,.int .i64 0,.int .i64 0,qos l,.int .i64 0,.nil]
abbrev ctE (n i:Nat):List (Nat×T):=[(0,dcR),(1,.bool false),(4,.ref 0 10 0),(5,.ref 111 10 0),(6,.int .i64 n),(7,.int .i64 i)]
abbrev ctH (d:Dc)(a1 a2:Nat)(l:List Cr):List (Nat×Slot):=[(99999,dcB d),(0,.live ⟨33,mod0⟩),(100,qoM ⟨#[97]⟩ ⟨#[98]⟩),(105,qoM ⟨#[120]⟩ ⟨#[121]⟩),(111,.live ⟨33,modC a1 a2 l⟩)]++qor l
set_option maxHeartbeats 8000000 in
theorem qly (a1 a2 n:Nat)(h1:a1≤1)(h2:a2≤1)(hn:n=1+a2)(R:List Cr×Dc)(Q:IExit→(Nat→T)→Heap→Prop)
 (hQ:∀i:Nat,Q (.exit 0) (ofL (ctE n i++[(28,.bool false)])) (hpL (ctH R.2 a1 a2 R.1))) :
 ∀(f i:Nat) (l:List Cr) (d:Dc),d.ok→i+f=3→l.length=i→qbp (1+a1) n f i l d=R→
 WL Tryz.prog 85 qkw (ofL (ctE n i)) (hpL (ctH d a1 a2 l)) Q:=by
 simp only[ctE,ctH,modC,List.cons_append,List.nil_append] at hQ ⊢
 intro f
 induction f with
 | zero=>
  intro i l d hok hi hl hR
  have hp:=qdD d hok 3 (by omega)
  have hr:=qbi hok (n:=3) (by omega)
  have hw:IntKind.wrap .i64 (1+(qaq d 3).1)=1+(qaq d 3).1:=wrap64 (by omega) (by omega)
  have hd:decide ((i:Int)<1+(qaq d 3).1)=false:=decide_eq_false (by omega)
  rw[qbp] at hR
  subst hR
  have fX:=(cJ2 @hd @hw)
  refine qaa qkw.eq_1 ?_
  refine wRn 400 [0,1,4,5,6,7,28] fX ?_
  refine rU [(99999,dcB d)] [(99999,dcB (qaq d 3).2)] fX ?_
  refine⟨_,hp.fulD,rE fX ?_⟩
  refine wF @hd ?_
  refine wX ?_
  refine wN ?_
  exact hQ _
 | succ f ih=>
  intro i l d hok hi hl hR
  have hp:=qdD d hok 3 (by omega)
  have hr:=qbi hok (n:=3) (by omega)
  have hw:IntKind.wrap .i64 (1+(qaq d 3).1)=1+(qaq d 3).1:=wrap64 (by omega) (by omega)
  rw[qbp] at hR
  by_cases hlt:(i:Int)<1+(qaq d 3).1
  ·have hd:decide ((i:Int)<1+(qaq d 3).1)=true:=decide_eq_true hlt
   rw[if_pos hlt] at hR
   have hok1:=qaQ hok 3
   obtain⟨d1,hd1⟩:∃d1,(qaq d 3).2=d1:=⟨_,rfl⟩
   rw[hd1] at hok1 hR hp
   have hw1:IntKind.wrap .i64 ((i:Int)+1)=((i+1:Nat):Int):=by rw[wrap64 (by omega) (by omega)];rfl
   have hp1:=qdD d1 hok1 (1+a1:Nat) (by omega)
   have hok2:=qaQ hok1 (1+a1:Nat)
   have hp2:=qdD _ hok2 (1+a1:Nat) (by omega)
   have hok3:=qaQ hok2 (1+a1:Nat)
   have hi1:=qiD n (by omega) (by omega) 2 (by omega) _ hok3
   have hok4:=qcd n 2 _ hok3
   obtain⟨I1,hI1⟩:∃I1,qbn n 2 (qaq (qaq d1 (1+a1:Nat)).2 (1+a1:Nat)).2=I1:=⟨_,rfl⟩
   rw[hI1] at hi1 hok4
   have hi2:=qiD n (by omega) (by omega) 2 (by omega) _ hok4
   have hok5:=qcd n 2 _ hok4
   have hrd:qeF i (1+a1) n d1=(⟨qiH i,(qaq d1 (1+a1:Nat)).1,(qaq (qaq d1 (1+a1:Nat)).2 (1+a1:Nat)).1,I1.1,(qbn n 2 I1.2).1⟩,(qbn n 2 I1.2).2):=by rw[qeF,hI1]
   rw[hrd] at hR
   have hQ':=ih (i+1) _ _ hok5 (by omega) (by simp[hl]) hR
   have hi3:i<3:=by omega
   have hnm:List.take 1 (List.drop ((i:Int).toNat*1) [T.str ⟨#[114]⟩,.str ⟨#[115]⟩,.str ⟨#[116]⟩])=[.str (qiH i)]:=by
    match i,hi3 with
    | 0,_=>rfl
    | 1,_=>rfl
    | 2,_=>rfl
   have hlt3:(i:Int)<3:=by omega
   have hr3:List.drop 1 (List.drop 1 (List.drop 1 (repl 3 [T.str ⟨#[]⟩])))=[]:=rfl
   cases l with
   | nil=>
    simp only[qos,qor,List.nil_append,List.append_nil,List.length_nil,List.flatMap_cons,List.flatMap_nil] at hQ' ⊢
    have fX:=(cJ6 @hd @hw @hw1 @hnm @hr3 @qaK)
    refine qaa qkw.eq_1 ?_
    refine W_gc ?_
    refine wRn 400 [0,1,4,5,6,7,28] fX ?_
    refine rU [(99999,dcB d)] [(99999,dcB d1)] fX ?_
    refine⟨_,hp.fulD,rE fX ?_⟩
    refine wT @hd ?_
    refine wRn 500 [0,1,4,5,6,7,8] fX ?_
    refine rU [(99999,dcB d1)] [(99999,dcB (qaq d1 (1+a1:Nat)).2)] fX ?_
    refine⟨_,hp1.fulD,rN fX ?_⟩
    refine rU [(99999,dcB (qaq d1 (1+a1:Nat)).2)] [(99999,dcB (qaq (qaq d1 (1+a1:Nat)).2 (1+a1:Nat)).2)] fX ?_
    refine⟨_,hp2.fulD,rN fX ?_⟩
    refine rU [(99999,dcB (qaq (qaq d1 (1+a1:Nat)).2 (1+a1:Nat)).2)] [(99999,dcB I1.2)] fX ?_
    refine⟨_,hi1.fulD,rN fX ?_⟩
    refine rU [(99999,dcB I1.2)] [(99999,dcB (qbn n 2 I1.2).2)] fX ?_
    refine⟨_,hi2.fulD,rE fX ?_⟩
    refine wR0 600 [0,1,4,5,6,7,8,57] fX ?_
    refine wF fX ?_
    refine wR0 1100 [0,1,4,5,6,7] fX ?_
    refine wR0 1200 [0,1,4,5,6,7] fX ?_
    refine wN ?_
    refine qaT [99999,0,100,105,111,1104] (by simp[inL]) (by simp[inL,T.cl]) (by simp[qak,inL,Slot.cl,T.cl,clL]) ?_
    simpa [qak,inL,crC] using hQ'
   | cons z zs=>
    have hlb:zs.length+1≤3:=by simp at hl;omega
    have he:((z::zs).flatMap crC).length=(zs.length+1)*14:=by rw[qo3 crC 14 (fun _=>rfl)];rfl
    have hm:(zs.length+1+1)*14=(zs.length+1)*14+14:=by omega
    have hfa:∀c:Cr,(z::(zs++[c])).flatMap crC=(z::zs).flatMap crC++crC c:=fun c=>by simp[List.flatMap_append]
    simp only[qos,qor,List.cons_append,List.length_append,List.length_cons,List.length_nil,Nat.zero_add,hfa,hm] at hQ' ⊢
    have fX:=(cJ7 @hd @hw @hw1 @hnm @hr3 @qaK @he)
    refine qaa qkw.eq_1 ?_
    refine W_gc ?_
    refine wRn 400 [0,1,4,5,6,7,28] fX ?_
    refine rU [(99999,dcB d)] [(99999,dcB d1)] fX ?_
    refine⟨_,hp.fulD,rE fX ?_⟩
    refine wT @hd ?_
    refine wRn 500 [0,1,4,5,6,7,8] fX ?_
    refine rU [(99999,dcB d1)] [(99999,dcB (qaq d1 (1+a1:Nat)).2)] fX ?_
    refine⟨_,hp1.fulD,rN fX ?_⟩
    refine rU [(99999,dcB (qaq d1 (1+a1:Nat)).2)] [(99999,dcB (qaq (qaq d1 (1+a1:Nat)).2 (1+a1:Nat)).2)] fX ?_
    refine⟨_,hp2.fulD,rN fX ?_⟩
    refine rU [(99999,dcB (qaq (qaq d1 (1+a1:Nat)).2 (1+a1:Nat)).2)] [(99999,dcB I1.2)] fX ?_
    refine⟨_,hi1.fulD,rN fX ?_⟩
    refine rU [(99999,dcB I1.2)] [(99999,dcB (qbn n 2 I1.2).2)] fX ?_
    refine⟨_,hi2.fulD,rE fX ?_⟩
    refine wR0 600 [0,1,4,5,6,7,8,57] fX ?_
    refine wF fX ?_
    refine wR0 1100 [0,1,4,5,6,7] fX ?_
    refine wR0 1200 [0,1,4,5,6,7] fX ?_
    refine wN ?_
    refine qaT [99999,0,100,105,111,1104] (by simp[inL]) (by simp[inL,T.cl]) (by simp[qak,inL,Slot.cl,T.cl,clL,qan,qlA,qjj]) ?_
    simpa [qak,inL,crC] using hQ'
  ·have hd:decide ((i:Int)<1+(qaq d 3).1)=false:=decide_eq_false hlt
   rw[if_neg hlt] at hR
   subst hR
   have fX:=(cJ2 @hd @hw)
   refine qaa qkw.eq_1 ?_
   refine wRn 400 [0,1,4,5,6,7,28] fX ?_
   refine rU [(99999,dcB d)] [(99999,dcB (qaq d 3).2)] fX ?_
   refine⟨_,hp.fulD,rE fX ?_⟩
   refine wF @hd ?_
   refine wX ?_
   refine wN ?_
   exact hQ _
end
end Go.Proofs.YtncpdpbpcnoeeaaGreat
