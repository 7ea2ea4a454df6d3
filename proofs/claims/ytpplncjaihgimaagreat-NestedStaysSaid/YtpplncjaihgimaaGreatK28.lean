/- Contracts of functions of the program, for all arguments that they name. -/
import Derived.Test.YtpplncjaihgimaaGreatK14
import Derived.Test.YtpplncjaihgimaaGreatK19
namespace Go.Proofs.YtpplncjaihgimaaGreat
set_option linter.unusedVariables false
section
open Go.RowKit
set_option maxHeartbeats 2000000
theorem qpu {P:Program}{f:FuncId}{r:T}{e:Nat}(hr:r.fro=true)(h1:TC P f [.nil] (fun _=>.free) r (fun _=>.free))(h2:TC P f [.sl 77 0 e 0 0] (hpL [(77,.dead)]) r (hpL [(77,.dead)])):TC P f [.list []] (fun _=>.free) r (fun _=>.free):=by
 have hno:∀i,(hpL [(77,Slot.dead)] i).owns=true→False:=fun i hi=>by
  rw[qaH] at hi
  split at hi<;>simp[hpL,Slot.owns] at hi
 refine⟨h1.1,fun w A μ vs hS hR=>?_⟩
 obtain⟨hsz,hR0⟩:=hR
 have h0:=hR0 0 (by simp)
 have e0:([T.list []]:List T).getD 0 .undef=.list []:=rfl
 rw[e0] at h0
 generalize hv:vs.getD 0 Go.undef=v at h0
 cases h0 with
 | lnil=>exact h1.2 w A μ vs hS ⟨hsz,fun i hi=>by
  have:i=0:=by simpa using hi
  subst this;rw[hv];exact .nil⟩
 | list a c k _ U hk hc h1' hA hU hR'=>
  have hS':Sim w A μ (hpL [(77,.dead)]):=⟨fun i j hi=>(hno i hi).elim,fun i b hb=>(hno i (by rw[hb];rfl)).elim,fun i es hb=>(hno i (by rw[hb];rfl)).elim,fun i hi=>(hno i hi).elim,hS.sta⟩
  refine (h2.2 w A μ vs hS' ⟨hsz,fun i hi=>?_⟩).mono ?_
  ·have:i=0:=by simpa using hi
   subst this;rw[hv];exact .slS a c 77 0 e 0 0 (Nat.zero_le _) (.inl rfl)
  ·rintro e' w2 ⟨v2,A2,μ2,rfl,k1,k2,k3⟩
   refine⟨v2,A2,μ2,rfl,k1.sub hr (fun i hi=>by cases hi),⟨fun i j hi=>(by cases hi),fun i b hb=>(by cases hb),fun i es hb=>(by cases hb),fun i hi=>(by cases hi),k2.sta⟩,⟨k3.os,k3.tape,k3.output,k3.size,fun b hb hn=>⟨(k3.un b hb fun i hi=>(hno i hi).elim).1,fun i hi=>(by cases hi)⟩,k3.st,fun b o ha=>?_,fun i b hb=>(by cases hb),fun i es hb=>(by cases hb),fun i hd=>(by cases hd)⟩⟩
   rcases k3.an b o ha with h | h | ⟨i,hi,_⟩
   ·exact .inl h
   ·exact .inr (.inl h)
   ·exact (hno i hi).elim
theorem qud {P:Program}{f:FuncId}{N:Nat}{ic:ICode}{rs:List (Nat×Option Nat)}{args:List T}{r:T}(h:FnOk P f N rs ic)(hn:args.length≤N)
 (hw:W P N ic (ofL (argL 0 args)) (hpL [(77,.dead)]) fun e env' H''=>(e=.ret∨e=.normal)∧∃x hl hl',resT env' H'' rs=some x∧H''=hpL hl∧Fz (hpL hl) (inL [77]) x r∧LFz (hpL hl) [77] hl hl'∧qam [77] hl'=[(77,.dead)]):TC P f args (hpL [(77,.dead)]) r (hpL [(77,.dead)]):=qj9 [77] h hn rfl hw
theorem rp0 (zs:List T):repl 0 zs=[]:=rfl
theorem qpK:TC Tryz.prog 71 [.nil] (hpL []) .nil (hpL []):=by
 refine qcj fn71 (by simp) ?_
 unfold i71
 simp only[argL]
 refine wR0 0 [0] cJ0 ?_
 refine wR0 100 [0,4] cJ0 ?_
 refine wT cJ0 ?_
 refine wR0 200 [2] cJ0 ?_
 refine wE ?_
 refine wN ?_
 first | exact⟨by simp,rfl,rfl⟩ | exact⟨by simp,rfl,trivial⟩
theorem qoq:TP Tryz.prog 71 [.list []] (.list []):=by
 refine qpu (e:=0) rfl ?_ ?_
 ·show TP Tryz.prog 71 [.nil] (.list [])
  refine qan fn71 (by simp) ?_
  unfold i71
  simp only[argL]
  refine wR0 0 [0] cJ0 ?_
  refine wR0 100 [0,4] cJ0 ?_
  refine wT cJ0 ?_
  refine wR0 200 [2] cJ0 ?_
  refine wP ?_
  exact .nil
 ·have fX:=@rp0
  refine qud fn71 (by simp) ?_
  unfold i71
  simp only[argL]
  refine wR0 0 [0] fX ?_
  refine wR0 100 [0,4] fX ?_
  refine wF fX ?_
  refine wR 300 [2] ?_
  refine rN1 fX ?_
  refine rN1 fX ?_
  refine rAppZ fX ?_
  refine rE fX ?_
  refine wE ?_
  refine wN ?_
  exact⟨by simp,_,_,_,rfl,rfl,Fz.slL rfl rfl rfl rfl rfl rfl rfl .nil,.keep rfl .dead (.dead rfl (fun h=>by cases h) .nil),rfl⟩
theorem qmM (x:Int)(l:List Int)(hl:(x::l).length≤1000000):TC Tryz.prog 71 [.list (qab (x::l))] (hpL []) (.sl 300 (l.length+1) 0 0 (l.length+1)) (hpL [(300,.live ⟨3,qab (x::l)⟩)]):=by
 have hsz:=qfj (x::l)
 have hle:l.length+1≤1000000000:=by simp at hl;omega
 have hne:qab (x::l)≠[]:=by simp
 have hlen:(qab (x::l)).length=l.length+1:=by simp[qah]
 have hq:binT .eql .slice (.list (qab (x::l))) .nil=some (.bool false):=rfl
 have fX:=(cJ5 @qbx @hsz @hq @rp0 @hlen)
 refine qcj fn71 (by simp) ?_
 unfold i71
 simp only[argL]
 refine wR0 0 [0] fX ?_
 refine wR0 100 [0,4] fX ?_
 refine wF @true_and ?_
 refine wR0 300 [2] fX ?_
 refine wE ?_
 refine wN ?_
 first | exact⟨by simp,rfl,rfl⟩ | exact⟨by simp,rfl,trivial⟩
def encC (x:Int×T):T:=.agg [.int .i64 x.1,x.2]
def qaY (l:List (Int×T)):List T:=l.map encC
def qaF (l:List (Int×T)):List T:=l.flatMap fun x=>[.int .i64 x.1,x.2]
theorem qc3 (l:List (Int×T)):(qaY l).length=l.length:=by simp[qaY]
theorem qbd:∀l:List (Int×T),(qaF l).length=l.length*2
 | []=>rfl
 | x::l=>by have:=qbd l;simp only[qaF] at this;simp[qaF,this];omega
theorem qeQ:∀l:List (Int×T),flat (qaY l)=qaF l
 | []=>rfl
 | x::l=>by have:=qeQ l;simp only[qaF,qaY] at this;simp[qaF,qaY,encC,qbe,this,T.cells]
theorem qen (l k:List (Int×T)):qaF (l++k)=qaF l++qaF k:=by simp[qaF]
theorem qlU (l:List (Int×T)):sizedB 2 (qaY l)=true:=by
 rw[sizedB,List.all_eq_true]
 intro x hx
 obtain⟨v,_,rfl⟩:=List.mem_map.1 hx
 rfl
theorem qkn (l:List (Int×T)):qcP (esz 2) (qaY l):=fun x hx=>by
 obtain⟨v,_,rfl⟩:=List.mem_map.1 hx
 rfl
theorem qi4 (A:List (Int×T))(x:Int×T)(B:List (Int×T))(i:Nat)(h:A.length=i):(qaY (A++x::B)).getD (i:Int).toNat .undef=.agg [.int .i64 x.1,x.2]:=by
 rw[Int.toNat_natCast,←h]
 simp[qaY,encC,List.getD_eq_getElem?_getD]
theorem qop:TC Tryz.prog 68 [.nil] (hpL []) .nil (hpL []):=by
 refine qcj fn68 (by simp) ?_
 unfold i68
 simp only[argL]
 refine wR0 0 [0] cJ0 ?_
 refine wR0 100 [0,4] cJ0 ?_
 refine wT cJ0 ?_
 refine wR0 200 [2] cJ0 ?_
 refine wE ?_
 refine wN ?_
 first | exact⟨by simp,rfl,rfl⟩ | exact⟨by simp,rfl,trivial⟩
theorem qpJ (x:Int×T)(l:List (Int×T))(hl:(x::l).length≤1000000):TC Tryz.prog 68 [.list (qaY (x::l))] (hpL []) (.sl 300 ((l.length+1)*2) 2 0 (l.length+1)) (hpL [(300,.live ⟨100,qaF (x::l)⟩)]):=by
 have hsz:=qlU (x::l)
 have hle:l.length+1≤1000000000:=by simp at hl;omega
 have hne:qaY (x::l)≠[]:=by simp[qaY]
 have hlen:(qaY (x::l)).length=l.length+1:=by simp[qc3]
 have hfl:(qaF (x::l)).length=(l.length+1)*2:=by rw[qbd];simp
 have hff:=qeQ (x::l)
 have hq:binT .eql .slice (.list (qaY (x::l))) .nil=some (.bool false):=rfl
 have fX:=(cJ6 @hff @hsz @hq @rp0 @hlen @hfl)
 refine qcj fn68 (by simp) ?_
 unfold i68
 simp only[argL]
 refine wR0 0 [0] fX ?_
 refine wR0 100 [0,4] fX ?_
 refine wF @true_and ?_
 refine wR0 300 [2] fX ?_
 refine wE ?_
 refine wN ?_
 first | exact⟨by simp,rfl,rfl⟩ | exact⟨by simp,rfl,trivial⟩
theorem qrE (cs z:List T)(n i k:Nat)(hcs:cs.length=n*k)(hi:i<n)(hz:z.length=k) :
 splice (splice cs (i*k) ((cs.drop ((i+1)*k)).take ((n - (i+1))*k))) ((n - 1)*k) z=cs.take (i*k)++cs.drop ((i+1)*k)++z:=by
 obtain⟨m,rfl⟩:∃m,n=i+1+m:=⟨n - (i+1),by omega⟩
 have e1:i+1+m - (i+1)=m:=by omega
 have e2:(i+1+m)*k=i*k+k+m*k:=by rw[Nat.add_mul,Nat.add_mul,Nat.one_mul]
 have e3:(i+1)*k=i*k+k:=by rw[Nat.add_mul,Nat.one_mul]
 have e4:(i+1+m - 1)*k=i*k+m*k:=by rw[show i+1+m - 1=i+m by omega,Nat.add_mul]
 rw[e1,e3,e4]
 rw[e2] at hcs
 have hd:(cs.drop (i*k+k)).take (m*k)=cs.drop (i*k+k):=List.take_of_length_le (by rw[List.length_drop];omega)
 rw[hd]
 have hl:(cs.drop (i*k+k)).length=m*k:=by rw[List.length_drop];omega
 unfold splice
 have ht:(cs.take (i*k)).length=i*k:=by rw[List.length_take];omega
 have h1:(cs.take (i*k)++cs.drop (i*k+k)++cs.drop (i*k+(cs.drop (i*k+k)).length)).take (i*k+m*k)=cs.take (i*k)++cs.drop (i*k+k):=by
  rw[List.take_append_of_le_length (by rw[List.length_append,ht,hl];omega)]
  exact List.take_of_length_le (by rw[List.length_append,ht,hl];omega)
 have h2:(cs.take (i*k)++cs.drop (i*k+k)++cs.drop (i*k+(cs.drop (i*k+k)).length)).drop (i*k+m*k+z.length)=[]:=by
  apply List.drop_of_length_le
  rw[List.length_append,List.length_append,ht,hl,List.length_drop,hz];omega
 rw[h1,h2,List.append_nil]
theorem qrD (cs z:List T)(n k:Nat)(hcs:cs.length=n*k)(hn:1≤n)(hz:z.length=k):splice cs ((n - 1)*k) z=cs.take ((n - 1)*k)++cs.drop ((n - 1+1)*k)++z:=by
 have e:(n - 1+1)*k=n*k:=by rw[Nat.sub_add_cancel hn]
 have e4:(n - 1)*k+k=n*k:=by rw[←e,Nat.add_mul,Nat.one_mul]
 unfold splice
 rw[e,List.drop_of_length_le (by rw[hz];omega),List.drop_of_length_le (by omega),List.append_nil,List.append_nil]
theorem quv (id n i:Nat)(cs:List T)(hcs:cs.length=n*1)(hi:i<n)(hn:n≤1000000):TC Tryz.prog 72 [.sl id (n*1) 0 0 n,.int .i64 i,.int .i64 ((i:Int)+1)] (hpL [(id,.live ⟨3,cs⟩)]) (.sl id (n*1) 0 0 (n - 1)) (hpL [(id,.live ⟨3,cs.take (i*1)++cs.drop ((i+1)*1)++[T.int .i64 0]⟩)]):=by
 have hne:((i:Int)==(i:Int)+1)=false:=by simp;omega
 have ht1:((i:Int)+1).toNat=i+1:=by omega
 have h0:(0:Int)≤(i:Int):=by omega
 have hn1:((n - 1:Nat):Int)=(n:Int) - 1:=by omega
 have hpos:1≤n:=by omega
 have esz1:esz 0=1:=rfl
 by_cases hlast:i+1=n
 ·subst hlast
  have hs:=qrD cs [T.int .i64 0] (i+1) 1 hcs (by omega) rfl
  simp only[Nat.add_sub_cancel] at hs ⊢
  have hln:(cs.take (i*1)++cs.drop ((i+1)*1)++[T.int .i64 0]).length=(i+1)*1:=by rw[←hs];unfold splice;simp;omega
  have ht2:((i:Int)+1).toNat=i+1:=by omega
  have hfin:(hpL [(id,.live ⟨3,splice cs (i*1) [T.int .i64 0]⟩)]:Heap)=hpL [(id,.live ⟨3,cs.take (i*1)++cs.drop ((i+1)*1)++[T.int .i64 0]⟩)]:=by rw[hs]
  have hnn:(0:Int)≤(i:Int)+1:=by omega
  by_cases hi0:i=0
  ·subst hi0
   have fX:=(cJ3 @hne @hcs @qaI)
   refine qcj fn72 (by simp) ?_
   unfold i72
   simp only[argL]
   refine wR0 0 [0,1,2] fX ?_
   refine wR0 100 [0,1,2] fX ?_
   refine wR0 200 [0,1,2,16] fX ?_
   refine wF fX ?_
   refine wR0 400 [0,1,2,7] fX ?_
   refine wR 500 [0,7] ?_
   refine rN1 fX ?_
   refine rN1 fX ?_
   refine qnH fX ?_
   refine rE fX ?_
   refine wR 600 [0] ?_
   refine rN1 fX ?_
   refine rN1 fX ?_
   refine rN1 fX ?_
   refine rN1 fX ?_
   refine qk6 0 1 fX ?_
   refine rE fX ?_
   refine wR0 700 [6] fX ?_
   refine wE ?_
   refine wN ?_
   exact⟨by simp,rfl,(by simpa [splice] using hfin)⟩
  ·have hz:¬(0=i):=by omega
   have hsub:i+1 - i=1:=by omega
   have fX:=(cJ8 @hne @hcs @qaI @ht2 @hz @hsub @hnn (cJ3 @h0 @Int.toNat_natCast @Nat.sub_zero))
   refine qcj fn72 (by simp) ?_
   unfold i72
   simp only[argL]
   refine wR0 0 [0,1,2] fX ?_
   refine wR0 100 [0,1,2] fX ?_
   refine wR0 200 [0,1,2,16] fX ?_
   refine wF fX ?_
   refine wR0 400 [0,1,2,7] fX ?_
   refine wR 500 [0,7] ?_
   refine rN1 fX ?_
   refine rN1 fX ?_
   refine rN1 fX ?_
   refine rN1 fX ?_
   refine rN1 fX ?_
   refine rN1 fX ?_
   refine rE fX ?_
   refine wR 600 [0] ?_
   refine rN1 fX ?_
   refine rN1 fX ?_
   refine rN1 fX ?_
   refine rN1 fX ?_
   refine qk6 i (i+1) fX ?_
   refine rE fX ?_
   refine wR0 700 [6] fX ?_
   refine wE ?_
   refine wN ?_
   exact⟨by simp,rfl,(by simpa [splice] using hfin)⟩
 ·have hlt:i+1<n:=by omega
  obtain⟨C1,hC1⟩:∃C,cs.take (i*1)++(cs.drop ((i+1)*1)).take ((n - (i+1))*1)++cs.drop (i*1+((cs.drop ((i+1)*1)).take ((n - (i+1))*1)).length)=C:=⟨_,rfl⟩
  have hs:=qrE cs [T.int .i64 0] n i 1 hcs hi rfl
  have e1:splice cs (i*1) ((cs.drop ((i+1)*1)).take ((n - (i+1))*1))=C1:=hC1
  rw[e1] at hs
  have hl1:C1.length=n*1:=by
   have hd:((cs.drop ((i+1)*1)).take ((n - (i+1))*1)).length=(n - (i+1))*1:=by rw[List.length_take,List.length_drop,hcs];omega
   rw[←e1,qaQ (by rw[hd,hcs];omega),hcs]
  have hfin:(hpL [(id,.live ⟨3,splice C1 ((n - 1)*1) [T.int .i64 0]⟩)]:Heap)=hpL [(id,.live ⟨3,cs.take (i*1)++cs.drop ((i+1)*1)++[T.int .i64 0]⟩)]:=by rw[hs]
  have hne2:¬(i+1=n):=hlast
  have hsum:i+(n - (i+1))=n - 1:=by omega
  have hone:n - (n - 1)=1:=by omega
  have hnn:(0:Int)≤(i:Int)+1:=by omega
  by_cases hi0:i=0
  ·subst hi0
   have hC0:=hC1
   simp only[Nat.zero_mul,List.take_zero,List.nil_append,Nat.zero_add] at hC0
   simp only[Nat.reduceMul] at hC0
   have fX:=(cJ8 @hne @hcs @qaI @ht1 @hne2 @hsum @hone (cJ3 @hC0 @hl1 @Nat.zero_add))
   refine qcj fn72 (by simp) ?_
   unfold i72
   simp only[argL]
   refine wR0 0 [0,1,2] fX ?_
   refine wR0 100 [0,1,2] fX ?_
   refine wR0 200 [0,1,2,16] fX ?_
   refine wF fX ?_
   refine wR0 400 [0,1,2,7] fX ?_
   refine wR 500 [0,7] ?_
   refine rN1 fX ?_
   refine rN1 fX ?_
   refine qnH fX ?_
   refine rN1 fX ?_
   refine rN1 fX ?_
   refine rN1 fX ?_
   refine qnI fX ?_
   refine rE fX ?_
   refine wR 600 [0] ?_
   refine rN1 fX ?_
   refine rN1 fX ?_
   refine rN1 fX ?_
   refine rN1 fX ?_
   refine qk6 (n - 1) n fX ?_
   refine rE fX ?_
   refine wR0 700 [6] fX ?_
   refine wE ?_
   refine wN ?_
   exact⟨by simp,rfl,hfin⟩
  ·have hz:¬(0=i):=by omega
   have fX:=(cJ8 @hne @hcs @qaI @ht1 @hz @hne2 @hsum (cJ7 @hone @hC1 @hl1 @hnn @h0 @Int.toNat_natCast @Nat.sub_zero))
   refine qcj fn72 (by simp) ?_
   unfold i72
   simp only[argL]
   refine wR0 0 [0,1,2] fX ?_
   refine wR0 100 [0,1,2] fX ?_
   refine wR0 200 [0,1,2,16] fX ?_
   refine wF fX ?_
   refine wR0 400 [0,1,2,7] fX ?_
   refine wR 500 [0,7] ?_
   refine rN1 fX ?_
   refine rN1 fX ?_
   refine rN1 fX ?_
   refine rN1 fX ?_
   refine rN1 fX ?_
   refine rN1 fX ?_
   refine qnI fX ?_
   refine rE fX ?_
   refine wR 600 [0] ?_
   refine rN1 fX ?_
   refine rN1 fX ?_
   refine rN1 fX ?_
   refine rN1 fX ?_
   refine qk6 (n - 1) n fX ?_
   refine rE fX ?_
   refine wR0 700 [6] fX ?_
   refine wE ?_
   refine wN ?_
   exact⟨by simp,rfl,hfin⟩
theorem quw (id n i:Nat)(cs:List T)(hcs:cs.length=n*2)(hi:i<n)(hn:n≤1000000):TC Tryz.prog 70 [.sl id (n*2) 2 0 n,.int .i64 i,.int .i64 ((i:Int)+1)] (hpL [(id,.live ⟨100,cs⟩)]) (.sl id (n*2) 2 0 (n - 1)) (hpL [(id,.live ⟨100,cs.take (i*2)++cs.drop ((i+1)*2)++[T.int .i64 0,.nil]⟩)]):=by
 have hne:((i:Int)==(i:Int)+1)=false:=by simp;omega
 have ht1:((i:Int)+1).toNat=i+1:=by omega
 have h0:(0:Int)≤(i:Int):=by omega
 have hn1:((n - 1:Nat):Int)=(n:Int) - 1:=by omega
 have hpos:1≤n:=by omega
 have esz1:esz 2=2:=rfl
 by_cases hlast:i+1=n
 ·subst hlast
  have hs:=qrD cs [T.int .i64 0,.nil] (i+1) 2 hcs (by omega) rfl
  simp only[Nat.add_sub_cancel] at hs ⊢
  have hln:(cs.take (i*2)++cs.drop ((i+1)*2)++[T.int .i64 0,.nil]).length=(i+1)*2:=by rw[←hs];unfold splice;simp;omega
  have ht2:((i:Int)+1).toNat=i+1:=by omega
  have hfin:(hpL [(id,.live ⟨100,splice cs (i*2) [T.int .i64 0,.nil]⟩)]:Heap)=hpL [(id,.live ⟨100,cs.take (i*2)++cs.drop ((i+1)*2)++[T.int .i64 0,.nil]⟩)]:=by rw[hs]
  have hnn:(0:Int)≤(i:Int)+1:=by omega
  by_cases hi0:i=0
  ·subst hi0
   have fX:=(cJ3 @hne @hcs @qaI)
   refine qcj fn70 (by simp) ?_
   unfold i70
   simp only[argL]
   refine wR0 0 [0,1,2] fX ?_
   refine wR0 100 [0,1,2] fX ?_
   refine wR0 200 [0,1,2,16] fX ?_
   refine wF fX ?_
   refine wR0 400 [0,1,2,7] fX ?_
   refine wR 500 [0,7] ?_
   refine rN1 fX ?_
   refine rN1 fX ?_
   refine qnH fX ?_
   refine rE fX ?_
   refine wR 600 [0] ?_
   refine rN1 fX ?_
   refine rN1 fX ?_
   refine rN1 fX ?_
   refine rN1 fX ?_
   refine qk6 0 1 fX ?_
   refine rE fX ?_
   refine wR0 700 [6] fX ?_
   refine wE ?_
   refine wN ?_
   exact⟨by simp,rfl,(by simpa [splice] using hfin)⟩
  ·have hz:¬(0=i):=by omega
   have hsub:i+1 - i=1:=by omega
   have fX:=(cJ8 @hne @hcs @qaI @ht2 @hz @hsub @hnn (cJ3 @h0 @Int.toNat_natCast @Nat.sub_zero))
   refine qcj fn70 (by simp) ?_
   unfold i70
   simp only[argL]
   refine wR0 0 [0,1,2] fX ?_
   refine wR0 100 [0,1,2] fX ?_
   refine wR0 200 [0,1,2,16] fX ?_
   refine wF fX ?_
   refine wR0 400 [0,1,2,7] fX ?_
   refine wR 500 [0,7] ?_
   refine rN1 fX ?_
   refine rN1 fX ?_
   refine rN1 fX ?_
   refine rN1 fX ?_
   refine rN1 fX ?_
   refine rN1 fX ?_
   refine rE fX ?_
   refine wR 600 [0] ?_
   refine rN1 fX ?_
   refine rN1 fX ?_
   refine rN1 fX ?_
   refine rN1 fX ?_
   refine qk6 i (i+1) fX ?_
   refine rE fX ?_
   refine wR0 700 [6] fX ?_
   refine wE ?_
   refine wN ?_
   exact⟨by simp,rfl,(by simpa [splice] using hfin)⟩
 ·have hlt:i+1<n:=by omega
  obtain⟨C1,hC1⟩:∃C,cs.take (i*2)++(cs.drop ((i+1)*2)).take ((n - (i+1))*2)++cs.drop (i*2+((cs.drop ((i+1)*2)).take ((n - (i+1))*2)).length)=C:=⟨_,rfl⟩
  have hs:=qrE cs [T.int .i64 0,.nil] n i 2 hcs hi rfl
  have e1:splice cs (i*2) ((cs.drop ((i+1)*2)).take ((n - (i+1))*2))=C1:=hC1
  rw[e1] at hs
  have hl1:C1.length=n*2:=by
   have hd:((cs.drop ((i+1)*2)).take ((n - (i+1))*2)).length=(n - (i+1))*2:=by rw[List.length_take,List.length_drop,hcs];omega
   rw[←e1,qaQ (by rw[hd,hcs];omega),hcs]
  have hfin:(hpL [(id,.live ⟨100,splice C1 ((n - 1)*2) [T.int .i64 0,.nil]⟩)]:Heap)=hpL [(id,.live ⟨100,cs.take (i*2)++cs.drop ((i+1)*2)++[T.int .i64 0,.nil]⟩)]:=by rw[hs]
  have hne2:¬(i+1=n):=hlast
  have hsum:i+(n - (i+1))=n - 1:=by omega
  have hone:n - (n - 1)=1:=by omega
  have hnn:(0:Int)≤(i:Int)+1:=by omega
  by_cases hi0:i=0
  ·subst hi0
   have hC0:=hC1
   simp only[Nat.zero_mul,List.take_zero,List.nil_append,Nat.zero_add] at hC0
   simp only[Nat.reduceMul] at hC0
   have fX:=(cJ8 @hne @hcs @qaI @ht1 @hne2 @hsum @hone (cJ3 @hC0 @hl1 @Nat.zero_add))
   refine qcj fn70 (by simp) ?_
   unfold i70
   simp only[argL]
   refine wR0 0 [0,1,2] fX ?_
   refine wR0 100 [0,1,2] fX ?_
   refine wR0 200 [0,1,2,16] fX ?_
   refine wF fX ?_
   refine wR0 400 [0,1,2,7] fX ?_
   refine wR 500 [0,7] ?_
   refine rN1 fX ?_
   refine rN1 fX ?_
   refine qnH fX ?_
   refine rN1 fX ?_
   refine rN1 fX ?_
   refine rN1 fX ?_
   refine qnI fX ?_
   refine rE fX ?_
   refine wR 600 [0] ?_
   refine rN1 fX ?_
   refine rN1 fX ?_
   refine rN1 fX ?_
   refine rN1 fX ?_
   refine qk6 (n - 1) n fX ?_
   refine rE fX ?_
   refine wR0 700 [6] fX ?_
   refine wE ?_
   refine wN ?_
   exact⟨by simp,rfl,hfin⟩
  ·have hz:¬(0=i):=by omega
   have fX:=(cJ8 @hne @hcs @qaI @ht1 @hz @hne2 @hsum (cJ7 @hone @hC1 @hl1 @hnn @h0 @Int.toNat_natCast @Nat.sub_zero))
   refine qcj fn70 (by simp) ?_
   unfold i70
   simp only[argL]
   refine wR0 0 [0,1,2] fX ?_
   refine wR0 100 [0,1,2] fX ?_
   refine wR0 200 [0,1,2,16] fX ?_
   refine wF fX ?_
   refine wR0 400 [0,1,2,7] fX ?_
   refine wR 500 [0,7] ?_
   refine rN1 fX ?_
   refine rN1 fX ?_
   refine rN1 fX ?_
   refine rN1 fX ?_
   refine rN1 fX ?_
   refine rN1 fX ?_
   refine qnI fX ?_
   refine rE fX ?_
   refine wR 600 [0] ?_
   refine rN1 fX ?_
   refine rN1 fX ?_
   refine rN1 fX ?_
   refine rN1 fX ?_
   refine qk6 (n - 1) n fX ?_
   refine rE fX ?_
   refine wR0 700 [6] fX ?_
   refine wE ?_
   refine wN ?_
   exact⟨by simp,rfl,hfin⟩
end
end Go.Proofs.YtpplncjaihgimaaGreat
