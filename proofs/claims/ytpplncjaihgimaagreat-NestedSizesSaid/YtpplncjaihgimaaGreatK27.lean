/- Contracts of functions of the program, for all arguments that they name. -/
import Derived.Test.YtpplncjaihgimaaGreatK25
import Derived.Test.YtpplncjaihgimaaGreatK26
namespace Go.Proofs.YtpplncjaihgimaaGreat
set_option linter.unusedVariables false
section
open Go.RowKit
def qdq (i b:Int):Nat→List Int→List (List Int)
 | _,[]=>[]
 | k,x::xs=>(if x=b then [[i,(k:Int)]] else [])++qdq i b (k+1) xs
def qgj (labels:List Int)(i:Nat)(n:Nd):List (List Int):=
 if n.lab=labels.getD 0 0 then (if labels.length=1 then [[(i:Int)]] else qdq i (labels.getD 1 0) 0 n.kids) else []
def qbU (labels:List Int):Nat→List Nd→List (List Int)
 | _,[]=>[]
 | i,n::l=>qgj labels i n++qbU labels (i+1) l
def qa4 (l:List Nd)(labels:List Int):List (List Int):=if labels.length=0 then [[]] else qbU labels 0 l
def qsE (ks p next:List Int):List Int:=
 if p.length > 1 then (if next.length > 1 then ks.set (p.getD 1 0).toNat (next.getD 1 0) else ks.eraseIdx (p.getD 1 0).toNat) else ks++next.drop 1
def qaO (l:List Nd)(p next:List Int):List Nd:=
 if p.length=0 then l++[⟨next.getD 0 0,next.drop 1⟩] else if next.length=0 then l.eraseIdx (p.getD 0 0).toNat
 else l.set (p.getD 0 0).toNat ⟨next.getD 0 0,qsE (l.getD (p.getD 0 0).toNat nd0).kids p next⟩
def cntN (labels:List Int)(n:Nd):Nat:=
 if n.lab=labels.getD 0 0 then (if labels.length=1 then 1 else n.kids.count (labels.getD 1 0)) else 0
def cntF (l:List Nd)(labels:List Int):Nat:=if labels.length=0 then 1 else (l.map (cntN labels)).sum
theorem qhI (i b:Int):∀(ks:List Int) (k:Nat),(qdq i b k ks).length=ks.count b
 | [],k=>rfl
 | x::ks,k=>by
  rw[qdq,List.length_append,qhI i b ks,List.count_cons]
  by_cases h:x=b
  ·simp[h];omega
  ·simp[h]
theorem qiI (labels:List Int):∀(l:List Nd) (i:Nat),(qbU labels i l).length=(l.map (cntN labels)).sum
 | [],i=>rfl
 | n::l,i=>by
  rw[qbU,List.length_append,qiI labels l,List.map_cons,List.sum_cons]
  congr 1
  unfold qgj cntN
  split
  ·split
   ·rfl
   ·exact qhI _ _ _ _
  ·rfl
theorem qcw (l:List Nd)(labels:List Int):(qa4 l labels).length=cntF l labels:=by
 unfold qa4 cntF
 split
 ·rfl
 ·exact qiI _ _ _
theorem qhN (i b:Int)(q:List Int):∀(ks:List Int) (k:Nat),q∈qdq i b k ks↔∃E F,ks=E++b::F∧q=[i,((k+E.length:Nat):Int)]
 | [],k=>by simp[qdq]
 | x::ks,k=>by
  rw[qdq,List.mem_append,qhN i b q ks]
  constructor
  ·rintro (h | ⟨E,F,rfl,rfl⟩)
   ·split at h
    ·rename_i e
     subst e
     rw[List.mem_singleton] at h
     exact⟨[],ks,rfl,by simpa using h⟩
    ·cases h
   ·refine⟨x::E,F,rfl,?_⟩
    have:k+1+E.length=k+(x::E).length:=by simp;omega
    rw[this]
  ·rintro ⟨E,F,e,rfl⟩
   rcases E with _ | ⟨y,E⟩
   ·simp only[List.nil_append,List.cons.injEq] at e
    obtain⟨rfl,rfl⟩:=e
    exact .inl (by simp)
   ·simp only[List.cons_append,List.cons.injEq] at e
    obtain⟨rfl,rfl⟩:=e
    refine .inr ⟨E,F,rfl,?_⟩
    have:k+1+E.length=k+(x::E).length:=by simp;omega
    rw[this]
theorem qgi (labels q:List Int):∀(l:List Nd) (i:Nat),q∈qbU labels i l↔∃A n B,l=A++n::B∧q∈qgj labels (i+A.length) n
 | [],i=>by simp[qbU]
 | x::l,i=>by
  rw[qbU,List.mem_append,qgi labels q l]
  constructor
  ·rintro (h | ⟨A,n,B,rfl,h⟩)
   ·exact⟨[],x,l,rfl,by simpa using h⟩
   ·refine⟨x::A,n,B,rfl,?_⟩
    have:i+(x::A).length=i+1+A.length:=by simp;omega
    rw[this];exact h
  ·rintro ⟨A,n,B,e,h⟩
   rcases A with _ | ⟨y,A⟩
   ·simp only[List.nil_append,List.cons.injEq] at e
    obtain⟨rfl,rfl⟩:=e
    exact .inl (by simpa using h)
   ·simp only[List.cons_append,List.cons.injEq] at e
    obtain⟨rfl,rfl⟩:=e
    refine .inr ⟨A,n,B,rfl,?_⟩
    have:i+1+A.length=i+(x::A).length:=by simp;omega
    rw[this];exact h
theorem qqU (l:List Nd)(q:List Int):q∈qa4 l []↔q=[]:=by simp[qa4]
theorem qoV (l:List Nd)(a:Int)(q:List Int):q∈qa4 l [a]↔∃A n B,l=A++n::B∧n.lab=a∧q=[(A.length:Int)]:=by
 rw[qa4,if_neg (by simp),qgi]
 simp only[qgj,List.getD_cons_zero,List.length_singleton,if_true,Nat.zero_add]
 constructor
 ·rintro ⟨A,n,B,e,h⟩
  split at h
  ·rename_i hn
   exact⟨A,n,B,e,hn,by simpa using h⟩
  ·cases h
 ·rintro ⟨A,n,B,e,hn,rfl⟩
  exact⟨A,n,B,e,by rw[if_pos hn];simp⟩
theorem qoW (l:List Nd)(a b:Int)(q:List Int):q∈qa4 l [a,b]↔∃A n B E F,l=A++n::B∧n.lab=a∧n.kids=E++b::F∧q=[(A.length:Int),(E.length:Int)]:=by
 rw[qa4,if_neg (by simp),qgi]
 have h2:¬([a,b]:List Int).length=1:=by simp
 simp only[qgj,List.getD_cons_zero,List.getD_cons_succ,if_neg h2,Nat.zero_add]
 constructor
 ·rintro ⟨A,n,B,e,h⟩
  split at h
  ·rename_i hn
   obtain⟨E,F,h1,h2⟩:=(qhN _ _ _ _ _).1 h
   exact⟨A,n,B,E,F,e,hn,h1,by simpa using h2⟩
  ·cases h
 ·rintro ⟨A,n,B,E,F,e,hn,h1,rfl⟩
  exact⟨A,n,B,e,by rw[if_pos hn,qhN];exact⟨E,F,h1,by simp⟩⟩
theorem set_mid {α:Type}(A:List α)(x y:α)(B:List α):(A++x::B).set A.length y=A++y::B:=by simp
theorem qkp {α:Type}(A:List α)(x:α)(B:List α):(A++x::B).eraseIdx A.length=A++B:=by
 rw[List.eraseIdx_append_of_length_le (Nat.le_refl _),Nat.sub_self];rfl
theorem qjf {α:Type}(A:List α)(x:α)(B:List α)(d:α):(A++x::B).getD A.length d=x:=by simp[List.getD_eq_getElem?_getD]
theorem qfA (l:List Nd)(x:Int)(nx:List Int):qaO l [] (x::nx)=l++[⟨x,nx⟩]:=by simp[qaO]
theorem qbz (A:List Nd)(n:Nd)(B:List Nd)(p:List Int):qaO (A++n::B) ((A.length:Int)::p) []=A++B:=by
 rw[qaO,if_neg (by simp),if_pos (show ([]:List Int).length=0 from rfl)]
 exact qkp A n B
theorem qeI (A:List Nd)(n:Nd)(B:List Nd)(x:Int)(nx:List Int):qaO (A++n::B) [(A.length:Int)] (x::nx)=A++⟨x,n.kids++nx⟩::B:=by
 rw[qaO,if_neg (by simp),if_neg (by simp)]
 simp only[List.getD_cons_zero,Int.toNat_natCast,qjf,set_mid]
 simp[qsE]
theorem qfB (A:List Nd)(n:Nd)(B:List Nd)(E F:List Int)(b:Int)(h:n.kids=E++b::F)(x:Int):qaO (A++n::B) [(A.length:Int),(E.length:Int)] [x]=A++⟨x,E++F⟩::B:=by
 rw[qaO,if_neg (by simp),if_neg (by simp)]
 simp only[List.getD_cons_zero,Int.toNat_natCast,qjf,set_mid]
 rw[qsE,if_pos (by simp),if_neg (by simp),h]
 simp only[List.getD_cons_succ,List.getD_cons_zero,Int.toNat_natCast,qkp]
theorem qeJ (A:List Nd)(n:Nd)(B:List Nd)(E F:List Int)(b:Int)(h:n.kids=E++b::F)(x y:Int)(nx:List Int):qaO (A++n::B) [(A.length:Int),(E.length:Int)] (x::y::nx)=A++⟨x,E++y::F⟩::B:=by
 rw[qaO,if_neg (by simp),if_neg (by simp)]
 simp only[List.getD_cons_zero,Int.toNat_natCast,qjf,set_mid]
 rw[qsE,if_pos (by simp),if_pos (by simp),h]
 simp only[List.getD_cons_succ,List.getD_cons_zero,Int.toNat_natCast,set_mid]
theorem qkh {l:List Nd}{labels p:List Int}(h1:1≤labels.length)(h2:labels.length≤2)(hp:p∈qa4 l labels):qaO l p labels=l:=by
 match labels,h1,h2 with
 | [a],_,_=>
  obtain⟨A,n,B,rfl,rfl,rfl⟩:=(qoV _ _ _).1 hp
  rw[qeI,List.append_nil]
 | [a,b],_,_=>
  obtain⟨A,n,B,E,F,rfl,rfl,h,rfl⟩:=(qoW _ _ _ _).1 hp
  rw[qeJ A n B E F b h,←h]
def totN (l:List Nd):Nat:=(l.map fun n=>1+n.kids.length).sum
theorem qeD (A:List Nd)(n:Nd)(B:List Nd):totN (A++n::B)=totN A+(1+n.kids.length)+totN B:=by
 simp[totN];omega
theorem qmu (A B:List Nd):totN (A++B)=totN A+totN B:=by simp[totN]
theorem qtF {l k:List Nd}(h:l.Perm k):totN l=totN k:=by
 unfold totN
 exact (h.map _).sum_nat
theorem qtE (l:List Nd):totN (l.map kidS)=totN l:=by
 unfold totN
 rw[List.map_map]
 congr 1
 refine List.map_congr_left fun n _=>?_
 simp only[Function.comp,kidS]
 rw[(qgp n.kids).length_eq]
theorem qlL {l:List Nd}{path next p:List Int}(h1:path.length≤2)(h2:next.length≤2)(h0:0<path.length+next.length)(hp:p∈qa4 l path) :
 totN (qaO l p next)+path.length≤totN l+next.length∧(path.length≤next.length→totN (qaO l p next)+path.length=totN l+next.length):=by
 match path,h1,h0 with
 | [],_,h0=>
  rw[(qqU _ _).1 hp]
  match next,h2,h0 with
  | x::nx,h2,_=>
   rw[qfA,qmu]
   simp only[totN,List.map_cons,List.map_nil,List.sum_cons,List.sum_nil,List.length_nil,List.length_cons]
   omega
 | [a],_,_=>
  obtain⟨A,n,B,rfl,rfl,rfl⟩:=(qoV _ _ _).1 hp
  match next,h2 with
  | [],_=>
   rw[qbz,qeD,qmu]
   simp only[List.length_cons,List.length_nil]
   omega
  | x::nx,_=>
   rw[qeI,qeD,qeD]
   simp only[List.length_cons,List.length_nil,List.length_append]
   omega
 | [a,b],_,_=>
  obtain⟨A,n,B,E,F,rfl,rfl,h,rfl⟩:=(qoW _ _ _ _).1 hp
  have hl:n.kids.length=E.length+F.length+1:=by rw[h];simp;omega
  match next,h2 with
  | [],_=>
   rw[qbz,qeD,qmu]
   simp only[List.length_cons,List.length_nil]
   omega
  | [x],_=>
   rw[qfB A n B E F b h,qeD,qeD]
   simp only[List.length_cons,List.length_nil,List.length_append]
   omega
  | [x,y],_=>
   rw[qeJ A n B E F b h,qeD,qeD]
   simp only[List.length_cons,List.length_nil,List.length_append]
   omega
theorem All2.length {α β:Type}{R:α→β→Prop}:∀ {l:List α} {k:List β},All2 R l k→l.length=k.length
 | [],[],.nil=>rfl
 | _::_,_::_,.cons _ h=>by simp[h.length]
theorem All2.append {α β:Type}{R:α→β→Prop}:∀ {a:List α} {a':List β} {b:List α} {b':List β},All2 R a a'→All2 R b b'→All2 R (a++b) (a'++b')
 | [],[],_,_,.nil,h=>h
 | _::_,_::_,_,_,.cons h0 h1,h=>.cons h0 (h1.append h)
theorem All2.split {α β:Type}{R:α→β→Prop}:∀ {A:List α} {x:α} {B:List α} {k:List β},All2 R (A++x::B) k→∃A' y B',k=A'++y::B'∧All2 R A A'∧R x y∧All2 R B B'
 | [],x,B,_::k,.cons h t=>⟨[],_,k,rfl,.nil,h,t⟩
 | a::A,x,B,b::k,.cons h t=>by
  obtain⟨A',y,B',rfl,h1,h2,h3⟩:=t.split
  exact⟨b::A',y,B',rfl,.cons h h1,h2,h3⟩
theorem All2.get {α β:Type}{R:α→β→Prop}(d:α)(e:β):∀ {l:List α} {k:List β},All2 R l k→∀i,i<l.length→R (l.getD i d) (k.getD i e)
 | [],[],.nil,i,h=>by simp at h
 | _::_,_::_,.cons h0 h1,0,_=>h0
 | _::_,_::_,.cons h0 h1,i+1,h=>h1.get d e i (by simpa using h)
theorem All2.of_get {α β:Type}{R:α→β→Prop}(d:α)(e:β):∀ {l:List α} {k:List β},l.length=k.length→(∀i,i<l.length→R (l.getD i d) (k.getD i e))→All2 R l k
 | [],[],_,_=>.nil
 | [],_::_,h,_=>by simp at h
 | _::_,[],h,_=>by simp at h
 | x::l,y::k,h,hr=>.cons (hr 0 (by simp)) (All2.of_get d e (by simpa using h) fun i hi=>hr (i+1) (by simpa using hi))
theorem All2.imp {α β:Type}{R S:α→β→Prop}(h:∀a b,R a b→S a b):∀ {l:List α} {k:List β},All2 R l k→All2 S l k
 | [],[],.nil=>.nil
 | _::_,_::_,.cons h0 h1=>.cons (h _ _ h0) (h1.imp h)
theorem qiN {α β:Type}{R:α→β→Prop}(d:α)(e:β)(l:List α)(k:List β) :
 (∃f:Nat→Nat,(∀i j,i<l.length→j<l.length→f i=f j→i=j)∧∀i,i<l.length→f i<k.length∧R (l.getD i d) (k.getD (f i) e))↔∃k1 k2,k.Perm (k1++k2)∧All2 R l k1:=by
 constructor
 ·rintro ⟨f,h1,h2⟩
  have hs:=qhW ((List.range l.length).map fun i=>k.getD (f i) e) k f (fun i j hi hj=>h1 i j (by simpa using hi) (by simpa using hj)) (fun i hi=>by
   have hi':i<l.length:=by simpa using hi
   have hb:=(h2 i hi').1
   exact⟨hb,by simp[hi',List.getD_eq_getElem?_getD,List.getElem?_eq_getElem hb]⟩)
  obtain⟨m,hm⟩:=hs
  refine⟨_,m,hm,All2.of_get d e (by simp) fun i hi=>?_⟩
  have:((List.range l.length).map fun i=>k.getD (f i) e).getD i e=k.getD (f i) e:=by simp[List.getD_eq_getElem?_getD,hi]
  rw[this]
  exact (h2 i hi).2
 ·rintro ⟨k1,k2,hk,ha⟩
  obtain⟨f,h1,h2⟩:=subP.places (l:=k1) (k:=k) ⟨k2,hk⟩
  have hl:=ha.length
  refine⟨f,fun i j hi hj=>h1 i j (by omega) (by omega),fun i hi=>?_⟩
  have hb:=h2 i (by omega)
  refine⟨hb.1,?_⟩
  have:=ha.get d e i hi
  have e2:k.getD (f i) e=k1.getD i e:=by rw[List.getD_eq_getElem?_getD,←hb.2,List.getD_eq_getElem?_getD]
  rw[e2];exact this
def nle (a b:Nd):Prop:=a.lab=b.lab∧subP a.kids b.kids
def subN (l k:List Nd):Prop:=∃k1 k2,k.Perm (k1++k2)∧All2 nle l k1
theorem All2.perm {α β:Type}{R:α→β→Prop}{l l':List α}(h:l.Perm l'):∀ {k:List β},All2 R l k→∃k',k.Perm k'∧All2 R l' k':=by
 induction h with
 | nil=>exact fun h=>⟨_,.refl _,h⟩
 | cons x _ ih=>
  intro k h
  cases h with
  | cons h0 h1=>
   obtain⟨k',h2,h3⟩:=ih h1
   exact⟨_,h2.cons _,.cons h0 h3⟩
 | swap x y l=>
  intro k h
  cases h with
  | cons h0 h1=>
   cases h1 with
   | cons h2 h3=>exact⟨_,.swap _ _ _,.cons h2 (.cons h0 h3)⟩
 | trans _ _ ih1 ih2=>
  intro k h
  obtain⟨k',h1,h2⟩:=ih1 h
  obtain⟨k'',h3,h4⟩:=ih2 h2
  exact⟨k'',h1.trans h3,h4⟩
theorem subN.perm {l k l' k':List Nd}(h:subN l k)(hl:l.Perm l')(hk:k.Perm k'):subN l' k':=by
 obtain⟨k1,k2,h1,h2⟩:=h
 obtain⟨k1',h3,h4⟩:=h2.perm hl
 exact⟨k1',k2,hk.symm.trans (h1.trans (h3.append_right k2)),h4⟩
theorem All2.kidS:∀ {l k:List Nd},All2 nle l k→All2 nle (l.map kidS) (k.map kidS)
 | [],[],.nil=>.nil
 | a::_,b::_,.cons h0 h1=>.cons ⟨h0.1,h0.2.perm (qgp _) (qgp _)⟩ h1.kidS
theorem subN.kidS {l k:List Nd}(h:subN l k):subN (l.map kidS) (k.map kidS):=by
 obtain⟨k1,k2,h1,h2⟩:=h
 exact⟨k1.map _,k2.map _,by rw[←List.map_append];exact h1.map _,h2.kidS⟩
theorem subN.sortN {L:Int}{l k:List Nd}(h:subN l k)(hl:qdB L l)(hk:qdB L k):subN (qe9 L l) (qe9 L k):=h.kidS.perm (qe2 hl).symm (qe2 hk).symm
theorem nle.refl (n:Nd):nle n n:=⟨rfl,.refl _⟩
theorem All2.refl {α:Type}{R:α→α→Prop}(h:∀a,R a a):∀l:List α,All2 R l l
 | []=>.nil
 | a::l=>.cons (h a) (All2.refl h l)
theorem subN.refl (l:List Nd):subN l l:=⟨l,[],by simp,All2.refl nle.refl l⟩
theorem subN.split {A B:List Nd}{n:Nd}{k:List Nd}(h:subN (A++n::B) k):∃C y D,k=C++y::D∧nle n y∧subN (A++B) (C++D)∧∀n' y',nle n' y'→subN (A++n'::B) (C++y'::D):=by
 obtain⟨k1,k2,h1,h2⟩:=h
 obtain⟨A',y,B',rfl,h3,h4,h5⟩:=h2.split
 have hy:y∈k:=h1.mem_iff.2 (by simp)
 obtain⟨C,D,rfl⟩:=List.append_of_mem hy
 have hp:(C++D).Perm (A'++B'++k2):=by
  have e1:(C++y::D).Perm (y::(C++D)):=List.perm_middle
  have e2:(A'++y::B'++k2).Perm (y::(A'++B'++k2)):=by
   rw[List.append_assoc,List.append_assoc,List.cons_append]
   exact List.perm_middle
  exact List.Perm.cons_inv (e1.symm.trans (h1.trans e2))
 refine⟨C,y,D,rfl,h4,⟨A'++B',k2,hp,h3.append h5⟩,fun n' y' h'=>⟨A'++y'::B',k2,?_,h3.append (.cons h' h5)⟩⟩
 refine List.perm_middle.trans ((hp.cons y').trans ?_)
 rw[List.append_assoc,List.append_assoc,List.cons_append]
 exact List.perm_middle.symm
theorem subP.split {E F k:List Int}{b:Int}(h:subP (E++b::F) k):∃E' F',k=E'++b::F'∧subP (E++F) (E'++F')∧∀c,subP (E++c::F) (E'++c::F'):=by
 obtain⟨m,h1⟩:=h
 have hb:b∈k:=h1.mem_iff.2 (by simp)
 obtain⟨E',F',rfl⟩:=List.append_of_mem hb
 have hp:(E'++F').Perm (E++F++m):=by
  have e1:(E'++b::F').Perm (b::(E'++F')):=List.perm_middle
  have e2:(E++b::F++m).Perm (b::(E++F++m)):=by
   rw[List.append_assoc,List.append_assoc,List.cons_append]
   exact List.perm_middle
  exact List.Perm.cons_inv (e1.symm.trans (h1.trans e2))
 refine⟨E',F',rfl,⟨m,hp⟩,fun c=>⟨m,?_⟩⟩
 refine List.perm_middle.trans ((hp.cons c).trans ?_)
 rw[List.append_assoc,List.append_assoc,List.cons_append]
 exact List.perm_middle.symm
theorem subN.app {l k:List Nd}(h:subN l k)(r:List Nd):subN (l++r) (k++r):=by
 obtain⟨k1,k2,h1,h2⟩:=h
 refine⟨k1++r,k2,(h1.append_right r).trans ?_,h2.append (All2.refl nle.refl r)⟩
 rw[List.append_assoc,List.append_assoc]
 exact List.Perm.append_left k1 List.perm_append_comm
theorem quY {l k:List Nd}{path next p:List Int}(h:subN l k)(h1:path.length≤2)(h2:next.length≤2)(h0:0<path.length+next.length)(hp:p∈qa4 l path) :
 ∃q,q∈qa4 k path∧subN (qaO l p next) (qaO k q next):=by
 match path,h1,h0 with
 | [],_,h0=>
  rw[(qqU _ _).1 hp]
  match next,h0 with
  | x::nx,_=>exact⟨[],(qqU _ _).2 rfl,by rw[qfA,qfA];exact h.app _⟩
 | [a],_,_=>
  obtain⟨A,n,B,rfl,rfl,rfl⟩:=(qoV _ _ _).1 hp
  obtain⟨C,y,D,rfl,h3,h4,h5⟩:=h.split
  refine⟨_,(qoV _ _ _).2 ⟨C,y,D,rfl,h3.1.symm,rfl⟩,?_⟩
  match next with
  | []=>rw[qbz,qbz];exact h4
  | x::nx=>rw[qeI,qeI];exact h5 _ _ ⟨rfl,h3.2.append nx⟩
 | [a,b],_,_=>
  obtain⟨A,n,B,E,F,rfl,rfl,e,rfl⟩:=(qoW _ _ _ _).1 hp
  obtain⟨C,y,D,rfl,h3,h4,h5⟩:=h.split
  have h6:=h3.2
  rw[e] at h6
  obtain⟨E',F',e',h7,h8⟩:=h6.split
  refine⟨_,(qoW _ _ _ _).2 ⟨C,y,D,E',F',rfl,h3.1.symm,e',rfl⟩,?_⟩
  match next,h2 with
  | [],_=>rw[qbz,qbz];exact h4
  | [x],_=>rw[qfB A n B E F b e,qfB C y D E' F' b e'];exact h5 _ _ ⟨rfl,h7⟩
  | [x,z],_=>rw[qeJ A n B E F b e,qeJ C y D E' F' b e'];exact h5 _ _ ⟨rfl,h8 z⟩
theorem quu {a b:Nd}(h:nle a b)(labels:List Int):cntN labels a≤cntN labels b:=by
 unfold cntN
 rw[h.1]
 split
 ·split
  ·exact Nat.le_refl _
  ·obtain⟨m,hm⟩:=h.2
   rw[hm.count_eq,List.count_append];omega
 ·exact Nat.le_refl _
theorem All2.sum_le (labels:List Int):∀ {l k:List Nd},All2 nle l k→(l.map (cntN labels)).sum≤(k.map (cntN labels)).sum
 | [],[],.nil=>Nat.le_refl _
 | a::_,b::_,.cons h0 h1=>by
  simp only[List.map_cons,List.sum_cons]
  exact Nat.add_le_add (quu h0 labels) (h1.sum_le labels)
theorem qut {l k:List Nd}(h:subN l k)(labels:List Int):cntF l labels≤cntF k labels:=by
 obtain⟨k1,k2,h1,h2⟩:=h
 unfold cntF
 split
 ·exact Nat.le_refl _
 ·rw[(h1.map (cntN labels)).sum_nat,List.map_append,List.sum_append]
  exact Nat.le_trans (h2.sum_le labels) (Nat.le_add_right _ _)
theorem qr4 (n a b:Int)(x y:List Int):bel (qa3 5 (qaK n)) (.mk a (qaP x)) (.mk b (qaP y))↔subP x y:=by
 have h2:bel (qa3 5 (qaK n)) (.mk a (qaP x)) (.mk b (qaP y))↔∃f:Nat→Nat,(∀i j,i<(qaP x).length→j<(qaP x).length→f i=f j→i=j)∧∀i,i<(qaP x).length→f i<(qaP y).length∧(fun u v:V=>u.n=v.n) ((qaP x).getD i v0) ((qaP y).getD (f i) v0):=by
  rw[qa3,bel,if_neg (by omega),if_neg (by omega),if_neg (by omega)]
  simp only[V.kids,belH,qaK,bel]
  simp
 rw[h2,qiN (R:=fun u v:V=>u.n=v.n) v0 v0 _ _]
 constructor
 ·rintro ⟨k1,k2,h3,h4⟩
  have h5:=h3.map V.n
  rw[qkJ,List.map_append] at h5
  have e:∀ {x:List Int} {k:List V},All2 (fun u v:V=>u.n=v.n) (qaP x) k→k.map V.n=x:=by
   intro x
   induction x with
   | nil=>intro k h;cases h;rfl
   | cons a x ih=>
    intro k h
    cases h with
    | cons h0 h1=>rw[List.map_cons,ih h1,←h0];rfl
  rw[e h4] at h5
  exact⟨_,h5⟩
 ·rintro ⟨m,hm⟩
  refine⟨qaP x,qaP m,?_,All2.refl (R:=fun u v:V=>u.n=v.n) (fun _=>rfl) _⟩
  have:qaP y=y.map fun w=>V.mk w []:=rfl
  rw[this]
  have:=hm.map fun w=>V.mk w []
  rwa [List.map_append] at this
theorem qr5 (l L:Int)(x y:Nd)(hx:L≤1→x.kids=[])(hy:L≤1→y.kids=[]):bel (qcq l L) (qaD L x) (qaD L y)↔nle x y:=by
 by_cases hL:L > 1
 ·rw[qcq,if_pos hL,qaD,if_pos hL,qaD,if_pos hL,bel,if_neg (by omega),if_neg (by omega),if_pos rfl]
  simp only[V.kids,belZ,and_true,qr4]
  rw[qaK,bel,if_neg (by omega),if_pos rfl]
  rfl
 ·rw[qcq,if_neg hL,qaD,if_neg hL,qaD,if_neg hL,qaK,bel,if_neg (by omega),if_pos rfl,nle,hx (by omega),hy (by omega)]
  simp only[V.n]
  exact⟨fun h=>⟨h,.refl _⟩,fun h=>h.1⟩
theorem qmE {m:Md}(hk:m.kind=4)(s s':Int){l l':List Nd}(hl:qdB m.levels l)(hl':qdB m.levels l'):bel (qau m) (cfgN m.levels s l) (cfgN m.levels s' l')↔s=s'∧subN l l':=by
 rw[qe5 hk,qaZ,bel,if_neg (by omega),if_neg (by omega),if_pos rfl]
 simp only[cfgN,bagV,V.kids,belZ,and_true]
 have h1:bel (qaK m.states.length) (.mk s []) (.mk s' [])↔s=s':=by rw[qaK,bel,if_neg (by omega),if_pos rfl];rfl
 rw[h1]
 refine and_congr_right fun _=>?_
 have h2:bel (qa3 5 (qcq m.letters.length m.levels)) (.mk 0 (l.map (qaD m.levels))) (.mk 0 (l'.map (qaD m.levels)))↔∃f:Nat→Nat,(∀i j,i<l.length→j<l.length→f i=f j→i=j)∧∀i,i<l.length→f i<l'.length∧nle (l.getD i nd0) (l'.getD (f i) nd0):=by
  rw[qa3,bel,if_neg (by omega),if_neg (by omega),if_neg (by omega)]
  simp only[V.kids,belH,List.length_map]
  have key:∀i k:Nat,i<l.length→k<l'.length→(bel (qcq m.letters.length m.levels) ((l.map (qaD m.levels)).getD i v0) ((l'.map (qaD m.levels)).getD k v0)↔nle (l.getD i nd0) (l'.getD k nd0)):=fun i k hi hk=>by
   have e1:(l.map (qaD m.levels)).getD i v0=qaD m.levels (l.getD i nd0):=by simp[List.getD_eq_getElem?_getD,List.getElem?_eq_getElem hi]
   have e2:(l'.map (qaD m.levels)).getD k v0=qaD m.levels (l'.getD k nd0):=by simp[List.getD_eq_getElem?_getD,List.getElem?_eq_getElem hk]
   rw[e1,e2]
   exact qr5 _ _ _ _ (fun h=>hl h _ (qcQ hi)) (fun h=>hl' h _ (qcQ hk))
  constructor
  ·rintro ⟨f,q1,q2⟩
   exact⟨f,q1,fun i hi=>⟨(q2 i hi).1,(key i _ hi (q2 i hi).1).1 (q2 i hi).2⟩⟩
  ·rintro ⟨f,q1,q2⟩
   exact⟨f,q1,fun i hi=>⟨(q2 i hi).1,(key i _ hi (q2 i hi).1).2 (q2 i hi).2⟩⟩
 rw[h2,qiN (R:=nle) nd0 nd0 _ _]
 rfl
theorem qib (m:Md)(hk:m.kind=4)(h1:1≤m.states.length∧m.states.length≤8)(h2:1≤m.letters.length∧m.letters.length≤6):qar (qau m) 8=true:=by
 rw[qe5 hk]
 by_cases hL:m.levels > 1
 ·simp[qaZ,qa3,qaK,qcq,hL,qar,qa1]
  omega
 ·simp[qaZ,qa3,qaK,qcq,hL,qar,qa1]
  omega
theorem qgI (m:Md)(hk:m.kind=4):qhq (qau m):=by
 rw[qe5 hk]
 refine⟨_,rfl,fun p hp=>?_⟩
 simp only[List.mem_cons,List.not_mem_nil,or_false] at hp
 rcases hp with rfl | rfl<;>simp[qaK,qa3,Ty.k]
theorem quK (m:Md)(hk:m.kind=4):qb9 m=cfgN m.levels 0 []:=by
 simp[qb9,qfd,hk,qaP,cfgN,bagV]
def nmL (n1 n2:Nat)(js:List Nat):List (UInt8×UInt8):=nmP 113 n1++nmP 108 n2++js.map fun j=>(114,UInt8.ofNat (48+j))
theorem qny (n1 n2:Nat)(js:List Nat)(h1:n1≤9)(h2:n2≤9)(hj:∀j∈js,j≤9):∀x∈nmL n1 n2 js,qoC x=true:=by
 have hg:∀(c:UInt8) (i:Nat),97≤c.toNat→c.toNat≤122→i≤9→qoC (c,UInt8.ofNat (48+i))=true:=fun c i h1 h2 hi=>by
  have e:(UInt8.ofNat (48+i)).toNat=48+i:=by simp[UInt8.toNat_ofNat'];omega
  simp only[qoC,e,Bool.and_eq_true,decide_eq_true_eq]
  omega
 intro x hx
 simp only[nmL,nmP,List.mem_append,List.mem_map,List.mem_range] at hx
 rcases hx with (⟨i,hi,rfl⟩ | ⟨i,hi,rfl⟩) | ⟨j,hjm,rfl⟩
 ·exact hg _ i (by decide) (by decide) (by omega)
 ·exact hg _ i (by decide) (by decide) (by omega)
 ·exact hg _ j (by decide) (by decide) (hj j hjm)
theorem qsb {i j:Nat}(hi:i≤9)(hj:j≤9)(h:UInt8.ofNat (48+i)=UInt8.ofNat (48+j)):i=j:=by
 have e1:(UInt8.ofNat (48+i)).toNat=48+i:=by simp[UInt8.toNat_ofNat'];omega
 have e2:(UInt8.ofNat (48+j)).toNat=48+j:=by simp[UInt8.toNat_ofNat'];omega
 have:=congrArg UInt8.toNat h
 omega
theorem qkP (n1 n2:Nat)(js:List Nat)(h1:n1≤9)(h2:n2≤9)(hj:∀j∈js,j≤9)(hn:js.Nodup):(nmL n1 n2 js).Nodup:=by
 have hnp:∀(c:UInt8) (l:List Nat),(∀j∈l,j≤9)→l.Nodup→(l.map fun j=>(c,UInt8.ofNat (48+j))).Nodup:=fun c l hl hn=>by
  rw[List.nodup_iff_pairwise_ne,List.pairwise_map]
  refine (List.nodup_iff_pairwise_ne.1 hn).imp_of_mem fun {a b} ha hb hab e=>?_
  simp only[Prod.mk.injEq,true_and] at e
  exact hab (qsb (hl a ha) (hl b hb) e)
 rw[nmL,List.nodup_append,List.nodup_append]
 refine⟨⟨hnp _ _ (fun j hj=>by simp at hj;omega) List.nodup_range,hnp _ _ (fun j hj=>by simp at hj;omega) List.nodup_range,?_⟩,hnp _ _ hj hn,?_⟩
 ·intro a ha b hb e
  simp only[nmP,List.mem_map,List.mem_range] at ha hb
  obtain⟨i,_,rfl⟩:=ha
  obtain⟨k,_,rfl⟩:=hb
  simp at e
 ·intro a ha b hb e
  simp only[nmP,List.mem_append,List.mem_map,List.mem_range] at ha hb
  obtain⟨k,_,rfl⟩:=hb
  rcases ha with⟨i,_,rfl⟩ | ⟨i,_,rfl⟩<;>simp at e
structure Tm (m:Md):Prop where
 kind:m.kind=4
 n1:1≤m.states.length∧m.states.length≤3
 n2:1≤m.letters.length∧m.letters.length≤3
 lv:1≤m.levels∧m.levels≤2
 places:m.places=[]
 ranks:m.ranks=[]
 age:m.age=0
 sts:m.states=qbT 113 m.states.length
 lts:m.letters=qbT 108 m.letters.length
theorem Tm.sized {m:Md}(h:Tm m)(hr:m.rules.length≤12):qa9 m=true∧qcO m=true∧btw m.kind 1 6=true:=by
 have hl:limC m.kind=[0,0,1,6,1,2,0,0]:=by rw[h.kind];rfl
 have:=h.n1;have:=h.n2;have:=h.lv
 refine⟨?_,?_,?_⟩
 ·simp[qa9,btw,hl,h.places,h.age];omega
 ·simp[qcO,h.kind,h.ranks]
 ·simp[btw,h.kind]
theorem Tm.names {m:Md}(h:Tm m):qbh m=(nmP 113 m.states.length++nmP 108 m.letters.length).map nm2++m.rules.map (·.name):=by
 rw[qbh,h.places,List.append_nil,List.map_append]
 conv=>lhs;rw[h.sts,h.lts]
 rfl
theorem Tm.check {m:Md}(h:Tm m)(hr:m.rules.length≤12)(hok:∀r∈m.rules,qbF m r=true)(h4:qec m=true) :
 qaM m=if qaR (qau m) m.start=true then 0 else 17:=by
 obtain⟨h1,h2,h3⟩:=h.sized hr
 have h5:(m.rules.any fun r=>!qbF m r)=false:=by
  rw[List.any_eq_false]
  intro r hm
  simp[hok r hm]
 have h6:qbo m=qaR (qau m) m.start:=by rw[qbo,if_neg (by rw[h.kind];omega)]
 rw[qaM,h1,h2,h3,h4,h5,h6]
 simp
 rcases qaR (qau m) m.start with _ | _<;>simp
theorem Tm.named {m:Md}(h:Tm m)(js:List Nat)(hjs:m.rules.map (·.name)=js.map fun j=>nm2 (114,UInt8.ofNat (48+j)))(hj9:∀j∈js,j≤9)(hjn:js.Nodup):qec m=true:=by
 have e:qbh m=(nmL m.states.length m.letters.length js).map nm2:=by
  rw[h.names,hjs,nmL]
  simp only[List.map_append,List.map_map]
  rfl
 rw[qec,e]
 have:=h.n1;have:=h.n2
 exact ql7 _ [] (by simpa using qkP _ _ js (by omega) (by omega) hj9 hjn) (qny _ _ js (by omega) (by omega) hj9)
theorem Tm.same {m m':Md}(h:Tm m)(h1:m'.kind=m.kind)(h2:m'.states=m.states)(h3:m'.letters=m.letters)(h4:m'.levels=m.levels)(h5:m'.places=m.places)(h6:m'.ranks=m.ranks)(h7:m'.age=m.age):Tm m':=
 ⟨h1▸h.kind,h2▸h.n1,h3▸h.n2,h4▸h.lv,h5▸h.places,h6▸h.ranks,h7▸h.age,by rw[h2];exact h.sts,by rw[h3];exact h.lts⟩
theorem Tm.bare {m:Md}(h:Tm m)(st:V):qaM (qc0 m st)=if qaR (qau m) st=true then 0 else 17:=by
 have h':Tm (qc0 m st):=h.same rfl rfl rfl rfl rfl rfl rfl
 exact Tm.check (m:=qc0 m st) h' (by simp[qc0]) (by simp[qc0]) (h'.named [] rfl (by simp) List.nodup_nil)
theorem Tm.ty {m:Md}(h:Tm m):qba (qau m)=0:=by
 have:=h.n1;have:=h.n2
 simp[qba,qib m h.kind (by omega) (by omega)]
theorem Tm.least {m:Md}(h:Tm m):qaR (qau m) (qb9 m)=true:=by
 have:=h.n1
 rw[quK m h.kind,qcd h.kind h.ty]
 refine⟨0,[],rfl,by omega,by omega,by simp,by simp,by simp[Asc],?_⟩
 have e:qbt (cfgN m.levels 0 []) 128=3:=rfl
 omega
theorem Tm.typeF {m:Md}(h:Tm m):qcU m=qau m:=by
 rw[qcU]
 split
 ·rfl
 ·have:=h.bare (qb9 m)
  rw[if_pos h.least] at this
  rw[if_pos this]
theorem Tm.cf {m:Md}(h:Tm m):Tm (cfM m):=h.same rfl rfl rfl rfl rfl rfl rfl
def qkI (m:Md)(l:List Int):Prop:=(l.length:Int)≤m.levels∧∀x∈l,0≤x∧x<m.letters.length
def qmo (m:Md)(r:Rl):Prop:=∃f t ps ns,r=⟨⟨#[]⟩,f,t,[],[],[],0,0,0,ps,ns,[],[],0⟩∧(0≤f∧f<m.states.length)∧(0≤t∧t<m.states.length)∧qkI m ps∧qkI m ns∧0<ps.length+ns.length
theorem Tm.right {m:Md}(h:m.kind=4){r:Rl}(hr:qmo m r)(nm:ByteArray):qbF m { r with name:=nm }=true:=by
 obtain⟨f,t,ps,ns,rfl,hf,ht,hp,hn,h0⟩:=hr
 have hk2:m.kind≠1∧¬(m.kind=2∨m.kind=3):=by rw[h];decide
 have hf':btw f 0 ((m.states.length:Int) - 1)=true:=by simp[btw];omega
 have ht':btw t 0 ((m.states.length:Int) - 1)=true:=by simp[btw];omega
 have e1:(ps.all fun x=>btw x 0 ((m.letters.length:Int) - 1))=true:=by
  rw[List.all_eq_true];intro x hx
  have:=hp.2 x hx
  simp[btw];omega
 have e2:(ns.all fun x=>btw x 0 ((m.letters.length:Int) - 1))=true:=by
  rw[List.all_eq_true];intro x hx
  have:=hn.2 x hx
  simp[btw];omega
 have e3:decide ((ps.length:Int)≤m.levels)=true:=decide_eq_true hp.1
 have e4:decide ((ns.length:Int)≤m.levels)=true:=decide_eq_true hn.1
 have e5:decide ((ps.length:Int)+ns.length > 0)=true:=decide_eq_true (by omega)
 simp only[qbF,qke,qlW,qkZ,if_neg hk2.1,if_neg hk2.2,if_pos h,qhU,qpa,qgn,qhZ,e1,e2,e3,e4,e5,hf',ht',beq_self_eq_true,Bool.true_or,Bool.and_true]
end
end Go.Proofs.YtpplncjaihgimaaGreat
