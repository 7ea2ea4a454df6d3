/- Contracts of functions of the program, for all arguments that they name. -/
import Derived.Test.YtpplncjaihgimaaGreatK17
namespace Go.Proofs.YtpplncjaihgimaaGreat
set_option linter.unusedVariables false
section
open Go.RowKit
set_option maxHeartbeats 2000000
def qkZ (k:Int)(r:Rl):Rl:=
 if k=1 then ⟨r.name,r.from_,r.to_,r.need,r.give,r.move,0,0,0,[],[],[],[],0⟩
 else if k=2∨k=3 then ⟨r.name,r.from_,r.to_,[],[],[],r.chan,r.act,r.lett,[],[],[],[],0⟩
 else if k=4 then ⟨r.name,r.from_,r.to_,[],[],[],0,0,0,r.path,r.next,[],[],0⟩
 else if k=5 then ⟨r.name,r.from_,r.to_,[],[],[],0,0,0,[],[],r.takes,r.makes,0⟩
 else ⟨r.name,r.from_,r.to_,r.need,r.give,[],0,0,0,[],[],[],[],r.second⟩
def qu7 (m:Md)(r:Rl):Bool:=qmK m r&&((r.second == -1) || btw r.second 0 ((m.states.length:Int) - 1))&&(decide (r.from_≥0) || (r.second == -1&&r.need.all fun x=>x==0))
def qlW (m:Md)(r:Rl):Bool:=
 if m.kind=1 then qmK m r&&movesM m r else if m.kind=2∨m.kind=3 then actsM m r else if m.kind=4 then qhU m r else if m.kind=5 then agesM m r else qu7 m r
def qke (m:Md)(r:Rl):Bool:=btw r.to_ 0 ((m.states.length:Int) - 1)&&(btw r.from_ 0 ((m.states.length:Int) - 1) || (m.kind==6&&r.from_ == -1))
def qbF (m:Md)(r:Rl):Bool:=qke m r&&(qlW m r&&qpa r (qkZ m.kind r))
theorem qoy:qbM []=[]:=rfl
set_option maxHeartbeats 4000000 in
theorem qs5 (m:Md)(r:Rl)(hm:m.states.length≤1000)(hb:qke m r=false):TP Tryz.prog 92 [qax m,qbK r] (.bool false):=by
 have hsl:=qaf m.states
 have hi1:=qfM r.to_ (m.states.length:Int) (by omega)
 have hi2:=qfM r.from_ (m.states.length:Int) (by omega)
 unfold qke at hb
 rcases h1:btw r.to_ 0 ((m.states.length:Int) - 1) with _ | _
 ·rw[h1] at hi1
  have fX:=(cJ3 @hsl @Bool.not_false @Bool.true_or)
  refine qan fn92 (by simp) ?_
  unfold i92
  simp only[argL,qax,mdC,qbK,rlC]
  refine wR0 0 [2,3] fX ?_
  refine wR0 100 [2,3,5] fX ?_
  refine wRn 200 [2,3,5,32] fX ?_
  refine rC fX ?_
  refine⟨_,hi1,rE fX ?_⟩
  refine wT fX ?_
  refine wR0 300 [4] fX ?_
  refine wP ?_
  exact qad rfl
 ·rw[h1] at hi1 hb
  rcases h2:btw r.from_ 0 ((m.states.length:Int) - 1) with _ | _
  ·rw[h2] at hi2 hb
   rcases h3:(m.kind != 6) with _ | _
   ·have h4:(r.from_ != -1)=true:=by
     have h3':(m.kind==6)=true:=by simpa using h3
     rw[h3'] at hb
     simpa using hb
    have fX:=(cJ6 @hsl @Bool.not_false @Bool.not_true @h3 @h4 @Bool.false_or)
    refine qan fn92 (by simp) ?_
    unfold i92
    simp only[argL,qax,mdC,qbK,rlC]
    refine wR0 0 [2,3] fX ?_
    refine wR0 100 [2,3,5] fX ?_
    refine wRn 200 [2,3,5,32] fX ?_
    refine rC fX ?_
    refine⟨_,hi1,rN fX ?_⟩
    refine rC fX ?_
    refine⟨_,hi2,rE fX ?_⟩
    refine wT fX ?_
    refine wR0 300 [4] fX ?_
    refine wP ?_
    exact qad rfl
   ·have fX:=(cJ5 @hsl @Bool.not_false @Bool.not_true @h3 @Bool.false_or)
    refine qan fn92 (by simp) ?_
    unfold i92
    simp only[argL,qax,mdC,qbK,rlC]
    refine wR0 0 [2,3] fX ?_
    refine wR0 100 [2,3,5] fX ?_
    refine wRn 200 [2,3,5,32] fX ?_
    refine rC fX ?_
    refine⟨_,hi1,rN fX ?_⟩
    refine rC fX ?_
    refine⟨_,hi2,rE fX ?_⟩
    refine wT fX ?_
    refine wR0 300 [4] fX ?_
    refine wP ?_
    exact qad rfl
  ·rw[h2] at hb
   simp at hb
set_option maxHeartbeats 4000000 in
theorem qoP (m:Md)(r:Rl)(hm:m.fit)(hr:r.fit)(ha:0≤m.age∧m.age≤1000)(hk:m.kind=4)(h1:btw r.to_ 0 ((m.states.length:Int) - 1)=true)(h2:btw r.from_ 0 ((m.states.length:Int) - 1)=true):TP Tryz.prog 92 [qax m,qbK r] (.bool (qlW m r&&qpa r (qkZ m.kind r))):=by
 have kb1:(m.kind==1)=false:=by rw[hk];rfl
 have kb2:(m.kind==2)=false:=by rw[hk];rfl
 have kb3:(m.kind==3)=false:=by rw[hk];rfl
 have kb4:(m.kind==4)=true:=by rw[hk];rfl
 have kb5:(m.kind==5)=false:=by rw[hk];rfl
 have kb6:(m.kind==6)=false:=by rw[hk];rfl
 have kn1:(m.kind != 1)=!false:=by rw[hk];rfl
 have kn3:(m.kind != 3)=!false:=by rw[hk];rfl
 have kn6:(m.kind != 6)=!false:=by rw[hk];rfl
 have hsl:=qaf m.states
 have hms:=hm.states
 have hi1:=qfM r.to_ (m.states.length:Int) (by omega)
 have hi2:=qfM r.from_ (m.states.length:Int) (by omega)
 rw[h1] at hi1
 rw[h2] at hi2
 have hf:qlW m r=qhU m r:=by rw[qlW,hk];rfl
 have hso:=qri r (qkZ 4 r) hr
 rw[show qkZ 4 r=⟨r.name,r.from_,r.to_,[],[],[],0,0,0,r.path,r.next,[],[],0⟩ from rfl] at hso
 have hon:qkZ m.kind r=⟨r.name,r.from_,r.to_,[],[],[],0,0,0,r.path,r.next,[],[],0⟩:=by rw[hk];rfl
 have fX:=(cJ8 @hsl @kb1 @kb2 @kb3 @kb4 @kb5 @kb6 (cJ3 @kn6 @Bool.not_true @Bool.not_false))
 refine qan fn92 (by simp) ?_
 unfold i92
 simp only[argL,qax,mdC,qbK,rlC]
 refine wR0 0 [2,3] fX ?_
 refine wR0 100 [2,3,5] fX ?_
 refine wRn 200 [2,3,5,32] fX ?_
 refine rC fX ?_
 refine⟨_,hi1,rN fX ?_⟩
 refine rC fX ?_
 refine⟨_,hi2,rE fX ?_⟩
 refine wF fX ?_
 refine wR0 400 [2,3,5,6] fX ?_
 refine wR0 500 [2,3,5,6] fX ?_
 refine wR0 600 [2,3,5,6,41] fX ?_
 refine wR0 700 [2,3,5,6,41,80] fX ?_
 refine wF fX ?_
 refine wR0 1000 [2,3,5,6,41,99] fX ?_
 refine wF fX ?_
 refine wR0 1100 [2,3,5,6,41,99] fX ?_
 refine wF fX ?_
 refine wR0 1400 [2,3,5,6,41,114] fX ?_
 refine wT fX ?_
 refine wR0 1500 [2,3,6] fX ?_
 refine wRn 1600 [3,6,7] fX ?_
 refine rC fX ?_
 refine⟨_,qs0 m r hm.letters hr,rE fX ?_⟩
 refine wRn 2200 [4] fX ?_
 refine rCi fX ?_
 refine⟨_,fun hw=>TP.ofNil hso (by simp only[qbK,rlC,qaw,qoy];(first | exact fF | exact fZt)),rE fX ?_⟩
 refine wP ?_
 exact qad (by rw[hf,hon])
theorem qqI (m:Md)(r:Rl)(hm:m.fit)(hr:r.fit)(ha:0≤m.age∧m.age≤1000)(hk:btw m.kind 1 6=true):TP Tryz.prog 92 [qax m,qbK r] (.bool (qbF m r)):=by
 unfold qbF
 rcases hb:qke m r with _ | _
 ·have h:=qs5 m r hm.states hb
  simpa using h
 ·unfold qke at hb
  simp only[Bool.and_eq_true,Bool.or_eq_true] at hb
  obtain⟨h1,h2⟩:=hb
  rw[Bool.true_and]
  rcases hf:btw r.from_ 0 ((m.states.length:Int) - 1) with _ | _
  ·rw[hf] at h2
   simp at h2
   exact absurd hm.kd (by unfold kindOk;omega)
  ·rcases qeV hk with h | h | h | h | h | h
   ·exact absurd hm.kd (by unfold kindOk;omega)
   ·exact absurd hm.kd (by unfold kindOk;omega)
   ·exact absurd hm.kd (by unfold kindOk;omega)
   ·exact qoP m r hm hr ha h h1 hf
   ·exact absurd hm.kd (by unfold kindOk;omega)
   ·exact absurd hm.kd (by unfold kindOk;omega)
theorem qpI (m:Md)(r:Rl)(h:TP Tryz.prog 92 [qax m,qbK r] (.bool (qbF m r))):TP Tryz.prog 91 [qbK r,.ptr (mdC m)] (.bool (!qbF m r)):=by
 refine qan fn91 (by simp) ?_
 unfold i91
 simp only[argL,qbK,rlC,mdC]
 refine wR0 0 [1,2] cJ0 ?_
 refine wRn 100 [3] cJ0 ?_
 refine rC cJ0 ?_
 refine⟨_,h,rE cJ0 ?_⟩
 refine wP ?_
 exact qad rfl
theorem qqx (n:Int):(qaK n).fit:=by simp[qaK,Ty.fit,qfl]
theorem qlz {t0 t:Ty}(h0:t0.fit)(h:t.fit):∀j,qfl (qgF t0 t j)
 | 0=>by simp[qgF,qfl,h0]
 | j+1=>by
  have ih:=qlz h0 h j
  have:∀(l:List Ty),qfl l→qfl (l++[t]):=fun l=>by
   induction l with
   | nil=>intro _;simp[qfl,h]
   | cons x l ih=>intro hl;simp only[qfl] at hl;simp only[List.cons_append,qfl];exact⟨hl.1,ih hl.2⟩
  exact this _ ih
theorem qe6 (m:Md)(hp:m.places.length≤1000)(hr:m.ranks.length≤1000000):(qau m).fit:=by
 unfold qau qaZ
 (repeat' split)
 ·unfold qdr
  split<;>simp[qa3,Ty.fit,qfl,qaK]
 ·simp[qa3,Ty.fit,qfl,qaK]
 ·have hpf:(qfT m).fit:=by
   unfold qfT
   (repeat' split)<;>simp[qa3,Ty.fit,qfl,qaK,hr]
  have:=qlz (qqx m.states.length) hpf m.places.length
  simp only[Ty.fit]
  exact⟨by simp,by rw[qh9];omega,this⟩
def qbo (m:Md):Bool:=if m.kind=6 then (m.start.n==0)&&((m.start.kids.length:Int)==0) else qaR (qau m) m.start
theorem qpE (m:Md)(hm:m.sane):TP Tryz.prog 93 [qax m] (.bool (qbo m)):=by
 have ht:=qj7 m hm
 have hv:=qk1 (qau m) m.start (qe6 m hm.fit.places hm.fit.ranks) hm.fit.start
 rw[qel] at hv
 rcases hty:qau m with⟨tk,ts,trs,tps⟩
 rw[hty] at ht hv
 simp only[qal] at ht hv
 refine qan fn93 (by simp) ?_
 unfold i93
 simp only[argL,qax,mdC]
 refine wR0 0 [1] cJ0 ?_
 refine wR0 100 [1,5] cJ0 ?_
 refine wS cJ0 (fun hc100=>?_) (fun hc100=>?_)
 ·skip
  refine wR0 200 [2] cJ0 ?_
  refine wP ?_
  exact qad (by simp at hc100;rw[qbo,if_pos hc100,qag])
 ·skip
  refine wRn 300 [2] cJ0 ?_
  refine rC cJ0 ?_
  refine⟨_,ht,rN cJ0 ?_⟩
  refine rC cJ0 ?_
  refine⟨_,hv,rE cJ0 ?_⟩
  refine wP ?_
  exact qad (by simp at hc100;rw[qbo,if_neg hc100,hty])
def qaM (m:Md):Int:=
 if btw m.kind 1 6=false then 15 else if qa9 m=false then 1 else if qcO m=false then 14 else if qec m=false then 13 else if (m.rules.any fun r=>!qbF m r)=true then 16 else if qbo m=false then 17 else 0
theorem qlp {m:Md}(h:qa9 m=true):m.states≠[]:=by
 simp only[qa9,Bool.and_eq_true,btw,decide_eq_true_eq] at h
 intro e
 rw[e] at h
 simp at h
theorem qgo {m:Md}(hm:m.fit)(hk:btw m.kind 1 6=true)(h:qa9 m=true)(hr:qcO m=true):m.sane:=by
 refine⟨hm,hk,fun h4=>?_,?_,fun h3 hn=>?_⟩
 ·have hl:limC m.kind=[0,0,1,6,1,2,0,0]:=by rw[h4];rfl
  simp[qa9,btw,hl] at h
  omega
 ·rcases qeV hk with k | k | k | k | k | k<;>(simp[qa9,btw,k,limC] at h;omega)
 ·have hl:limC m.kind=[1,2,1,6,0,0,0,0]:=by rw[h3];rfl
  simp[qa9,btw,hl] at h
  rw[qcO,if_neg (by simp[h3]),hn] at hr
  simp at hr
  omega
set_option maxHeartbeats 4000000 in
theorem qfO (m:Md)(hm:m.fit):TP Tryz.prog 52 [qax m] (.int .i64 (qaM m)):=by
 have hst:=qth m
 have hrt:=qq0 m hm
 have hmc:∀D,clL D (mdC m)=true:=fun D=>by simp
 rcases hk:btw m.kind 1 6 with _ | _
 ·have hb:=qbX m.kind 1 6
  rw[hk] at hb
  have fX:=@Bool.not_false
  refine qan fn52 (by simp) ?_
  unfold i52
  simp only[argL,qax,mdC]
  refine wR0 0 [1] fX ?_
  refine wRn 100 [1,3] fX ?_
  refine rC fX ?_
  refine⟨_,hb,rE fX ?_⟩
  refine wT fX ?_
  refine wR0 200 [2] fX ?_
  refine wP ?_
  exact qaW (by rw[qaM,if_pos hk])
 ·have hb:=qbX m.kind 1 6
  rw[hk] at hb
  rcases hs:qa9 m with _ | _
  ·rw[hs] at hst
   have fX:=(cJ2 @Bool.not_false @Bool.not_true)
   refine qan fn52 (by simp) ?_
   unfold i52
   simp only[argL,qax,mdC]
   refine wR0 0 [1] fX ?_
   refine wRn 100 [1,3] fX ?_
   refine rC fX ?_
   refine⟨_,hb,rE fX ?_⟩
   refine wF fX ?_
   refine wRn 300 [1,8] fX ?_
   refine rC fX ?_
   refine⟨_,hst,rE fX ?_⟩
   refine wT fX ?_
   refine wR0 400 [2] fX ?_
   refine wP ?_
   exact qaW (by rw[qaM,if_neg (by simp[hk]),if_pos hs])
  ·rw[hs] at hst
   rcases hr:qcO m with _ | _
   ·rw[hr] at hrt
    have fX:=(cJ2 @Bool.not_false @Bool.not_true)
    refine qan fn52 (by simp) ?_
    unfold i52
    simp only[argL,qax,mdC]
    refine wR0 0 [1] fX ?_
    refine wRn 100 [1,3] fX ?_
    refine rC fX ?_
    refine⟨_,hb,rE fX ?_⟩
    refine wF fX ?_
    refine wRn 300 [1,8] fX ?_
    refine rC fX ?_
    refine⟨_,hst,rE fX ?_⟩
    refine wF fX ?_
    refine wRn 500 [1,12] fX ?_
    refine rC fX ?_
    refine⟨_,hrt,rE fX ?_⟩
    refine wT fX ?_
    refine wR0 600 [2] fX ?_
    refine wP ?_
    exact qaW (by rw[qaM,if_neg (by simp[hk]),if_neg (by simp[hs]),if_pos hr])
   ·rw[hr] at hrt
    have hsn:=qgo hm hk hs hr
    have hcf:=quq 91 [.ptr (mdC m)] (by simp[clL,T.cl]) (fun r=>!qbF m r) m.rules (by have:=hm.rules;omega) (fun r hr=>qpI m r (qqI m r hm (hm.rule r hr) hsn.age hk))
    have hch:qaM m=if qec m=false then 13 else if (m.rules.any fun r=>!qbF m r)=true then 16 else if qbo m=false then 17 else 0:=by rw[qaM,if_neg (by simp[hk]),if_neg (by simp[hs]),if_neg (by simp[hr])]
    simp only[mdC] at hcf
    have fX:=(cJ2 @Bool.not_false @Bool.not_true)
    refine qan fn52 (by simp) ?_
    unfold i52
    simp only[argL,qax,mdC]
    refine wR0 0 [1] fX ?_
    refine wRn 100 [1,3] fX ?_
    refine rC fX ?_
    refine⟨_,hb,rE fX ?_⟩
    refine wF fX ?_
    refine wRn 300 [1,8] fX ?_
    refine rC fX ?_
    refine⟨_,hst,rE fX ?_⟩
    refine wF fX ?_
    refine wRn 500 [1,12] fX ?_
    refine rC fX ?_
    refine⟨_,hrt,rE fX ?_⟩
    refine wF fX ?_
    refine wRn 700 [1,16] fX ?_
    refine rC fX ?_
    refine⟨_,qsR m hm (qlp hs),rE fX ?_⟩
    refine wS cJ0 (fun hc700=>?_) (fun hc700=>?_)
    ·skip
     refine wR0 800 [2] fX ?_
     refine wP ?_
     exact qaW (by simp at hc700;rw[hch,if_pos hc700])
    ·skip
     refine wRn 900 [1,20] fX ?_
     refine rL [(0,.live ⟨_,mdC m⟩)] fX ?_
     refine⟨_,_,hcf,fZy,rfl,rE fX ?_⟩
     refine wS cJ0 (fun hc900=>?_) (fun hc900=>?_)
     ·skip
      refine wR0 1000 [2] fX ?_
      refine wP ?_
      exact qaW (by simp only[Bool.not_eq_false'] at hc700;rw[hch,if_neg (by simp[hc700]),if_pos hc900])
     ·skip
      refine wRn 1100 [25] fX ?_
      refine rC fX ?_
      refine⟨_,qpE m hsn,rE fX ?_⟩
      refine wS cJ0 (fun hc1100=>?_) (fun hc1100=>?_)
      ·skip
       refine wR0 1200 [2] fX ?_
       refine wP ?_
       exact qaW (by simp only[Bool.not_eq_false'] at hc700;simp only[Bool.not_eq_true'] at hc1100;rw[hch,if_neg (by simp[hc700]),if_neg (by simp only[hc900];simp),if_pos hc1100])
      ·skip
       refine wR0 1300 [2] fX ?_
       refine wP ?_
       exact qaW (by simp only[Bool.not_eq_false'] at hc700 hc1100;rw[hch,if_neg (by simp[hc700]),if_neg (by simp only[hc900];simp),if_neg (by simp[hc1100])])
theorem qgb {m:Md}(hm:m.fit)(h:qaM m=0):m.sane:=by
 unfold qaM at h
 split at h
 ·cases h
 ·rename_i hk
  split at h
  ·cases h
  ·rename_i hs
   split at h
   ·cases h
   ·rename_i hr
    exact qgo hm (by simpa using hk) (by simpa using hs) (by simpa using hr)
theorem typedM_fit' {m:Md}(hm:m.fit):(qau m).fit:=qe6 m hm.places hm.ranks
def qrR (m:Md)(c:V):Bool:=qaM m==0&&qaR (qau m) c
theorem qkM (m:Md)(c:V)(hm:m.fit)(hc:c.fit):TP Tryz.prog 38 [qax m,encV c] (.bool (qrR m c)):=by
 rcases c with⟨n,ks⟩
 refine qan fn38 (by simp) ?_
 unfold i38
 simp only[argL,encV,qax,mdC]
 refine wR0 0 [2,3] cJ0 ?_
 refine wRn 100 [4] cJ0 ?_
 refine rC cJ0 ?_
 refine⟨_,qfO m hm,rN cJ0 ?_⟩
 refine rCi cJ0 ?_
 refine⟨_,fun hw=>qj7 m (qgb hm (by simpa using hw)),rN cJ0 ?_⟩
 refine rCi cJ0 ?_
 refine⟨_,fun hw=>qk1 (qau m) (.mk n ks) (typedM_fit' hm) hc,rE cJ0 ?_⟩
 refine wP ?_
 exact qad rfl
theorem qss (n:Nat)(hn:0<n)(hl:n≤1000000):TC Tryz.prog 167 [.nil,.int .i64 n] (hpL []) (.sl 508 0 2 0 0) (hpL [(505,.dead),(508,.live ⟨25,[]⟩)]):=by
 have h1:decide ((n:Int)<0)=false:=decide_eq_false (by omega)
 have h2:decide ((n:Int) > 0)=true:=decide_eq_true (by omega)
 have hw:IntKind.wrap .i64 ((n:Int) - 0)=(n:Int):=by rw[Int.sub_zero];exact wrap64 (by omega) (by omega)
 have hw2:IntKind.wrap .i64 ((0:Int) - 0)=0:=rfl
 have fX:=(cJ4 @h1 @h2 @hw @hw2)
 refine qcj fn167 (by simp) ?_
 unfold i167
 simp only[argL]
 refine wR0 0 [0,1] fX ?_
 refine wR0 100 [0,1,6] fX ?_
 refine wF @h1 ?_
 refine wR0 300 [0,1] fX ?_
 refine wR0 400 [0,1,16] fX ?_
 refine wT @h2 ?_
 refine wR 500 [0] ?_
 refine rN1 fX ?_
 refine rN1 fX ?_
 refine rN1 fX ?_
 refine rN1 fX ?_
 refine rN1 fX ?_
 refine rN1 fX ?_
 refine rN1 fX ?_
 refine rN1 fX ?_
 refine rCut fX ?_
 refine rE fX ?_
 refine wR0 600 [4] fX ?_
 refine wE ?_
 refine wN ?_
 first | exact⟨by simp,rfl,rfl⟩ | exact⟨by simp,rfl,trivial⟩
theorem quD (n:Nat)(hn:0<n)(hl:n≤1000000):TC Tryz.prog 167 [.nil,.int .i64 n] (hpL []) (.sl 508 0 2 0 0) (hpL [(508,.live ⟨25,[]⟩)]):=
 qdY [508] (qss n hn hl) (by simp) (by simp[T.cl,inL]) (by simp[qam,inL,Slot.cl,clL])
def llsV (xss:List (List V)):List T:=xss.map fun l=>.list (qac l)
theorem qnu (pre:List (List V))(l:List V)(rest:List (List V)):(llsV (pre++l::rest)).getD pre.length .undef=.list (qac l):=by simp[llsV,List.getD_eq_getElem?_getD]
theorem qgP (xss:List (List V)):(llsV xss).length=xss.length:=by simp[llsV]
theorem qum (xss:List (List V))(hs:xss.flatten.length≤1000000)(hl:xss.length≤1000000)(Q:IExit→(Nat→T)→Heap→Prop):∀(rest pre:List (List V)) (i:Nat),xss=pre++rest→pre.length=i→
 (∀i:Int,Q (.exit 0) (ofL [(0,.list (llsV xss)),(3,.int .i64 xss.flatten.length),(9,.list (llsV xss)),(10,.int .i64 (llsV xss).length),(11,.int .i64 i),(12,.bool false)]) (hpL []))→
 WL Tryz.prog 36 qji (ofL [(0,.list (llsV xss)),(3,.int .i64 pre.flatten.length),(9,.list (llsV xss)),(10,.int .i64 (llsV xss).length),(11,.int .i64 i)]) (hpL []) Q:=by
 intro rest
 induction rest with
 | nil=>
  intro pre i he hn hQ
  have hd:decide ((i:Int)<((llsV xss).length:Int))=false:=by simp[qgP,he,hn]
  simp only[List.append_nil] at he
  subst he
  have fX:=@hd
  refine qaa qji.eq_1 ?_
  refine wR0 300 [0,3,9,10,11,12] fX ?_
  refine wF @hd ?_
  refine wX ?_
  refine wN ?_
  exact hQ _
 | cons k rest ih=>
  intro pre i he hn hQ
  have hlt:(i:Int)<((llsV xss).length:Int):=by simp[qgP,he];omega
  have hlb:i≤1000000:=by rw[he] at hl;simp at hl;omega
  have hd:decide ((i:Int)<((llsV xss).length:Int))=true:=decide_eq_true hlt
  have hg:(llsV xss).getD (i:Int).toNat .undef=.list (qac k):=by rw[Int.toNat_natCast,he,←hn];exact qnu _ k _
  have hw:IntKind.wrap .i64 ((i:Int)+1)=(i:Int)+1:=wrap64 (by omega) (by omega)
  have hsum:(pre++[k]).flatten.length≤1000000:=by rw[he] at hs;simp at hs ⊢;omega
  have hw2:IntKind.wrap .i64 ((pre.flatten.length:Int)+((qac k).length:Int))=((pre++[k]).flatten.length:Int):=by rw[qag];simp at hsum ⊢;exact wrap64 (by omega) (by omega)
  have hd2:decide (((pre++[k]).flatten.length:Int)<0)=false:=decide_eq_false (by omega)
  have fX:=(cJ5 @hd @hg @hw @hw2 @hd2)
  refine qaa qji.eq_1 ?_
  refine wR0 300 [0,3,9,10,11,12] fX ?_
  refine wT @hd ?_
  refine wR0 400 [0,3,5,9,10,11] fX ?_
  refine wR0 500 [0,3,9,10,11] fX ?_
  refine wR0 600 [0,3,9,10,11,20] fX ?_
  refine wF @hd2 ?_
  refine wR0 800 [0,3,9,10,11] fX ?_
  refine wN ?_
  exact ih (pre++[k]) (i+1) (by simp[he]) (by simp;omega) hQ
theorem qun (xss:List (List V))(hs:xss.flatten.length≤1000000)(hl:xss.length≤1000000)(Q:IExit→(Nat→T)→Heap→Prop):∀(rest pre:List (List V)) (i:Nat) (done:List V),xss=pre++rest→pre.length=i→pre.flatten=done→
 (∀(i:Int) (done:List V),done=xss.flatten→Q (.exit 2) (ofL [(6,.sl 508 (done.length*2) 2 0 done.length),(25,.list (llsV xss)),(26,.int .i64 (llsV xss).length),(27,.int .i64 i),(28,.bool false)]) (hpL [(508,.live ⟨25,qaq done⟩)]))→
 WL Tryz.prog 36 qhw (ofL [(6,.sl 508 (done.length*2) 2 0 done.length),(25,.list (llsV xss)),(26,.int .i64 (llsV xss).length),(27,.int .i64 i)]) (hpL [(508,.live ⟨25,qaq done⟩)]) Q:=by
 intro rest
 induction rest with
 | nil=>
  intro pre i done he hn hdn hQ
  have hd:decide ((i:Int)<((llsV xss).length:Int))=false:=by simp[qgP,he,hn]
  simp only[List.append_nil] at he
  have fX:=@hd
  refine qaa qhw.eq_1 ?_
  refine wR0 1100 [6,25,26,27,28] fX ?_
  refine wF @hd ?_
  refine wX ?_
  refine wN ?_
  exact hQ _ done (by rw[he,hdn])
 | cons k rest ih=>
  intro pre i done he hn hdn hQ
  have hlt:(i:Int)<((llsV xss).length:Int):=by simp[qgP,he];omega
  have hlb:i≤1000000:=by rw[he] at hl;simp at hl;omega
  have hd:decide ((i:Int)<((llsV xss).length:Int))=true:=decide_eq_true hlt
  have hg:(llsV xss).getD (i:Int).toNat .undef=.list (qac k):=by rw[Int.toNat_natCast,he,←hn];exact qnu _ k _
  have hw:IntKind.wrap .i64 ((i:Int)+1)=(i:Int)+1:=wrap64 (by omega) (by omega)
  have hsum:done.length+k.length≤1000000:=by rw[he] at hs;rw[←hdn];simp at hs ⊢;omega
  cases k with
  | nil=>
   have hg':(llsV xss).getD (i:Int).toNat .undef=.list []:=hg
   have fX:=(cJ3 @hd @hg' @hw)
   refine qaa qhw.eq_1 ?_
   refine wR0 1100 [6,25,26,27,28] fX ?_
   refine wT @hd ?_
   refine wR0 1200 [6,8,25,26,27] fX ?_
   refine wR0 1300 [6,25,26,27] fX ?_
   refine wR0 1400 [6,25,26,27] fX ?_
   refine wN ?_
   exact ih (pre++[[]]) (i+1) done (by simp[he]) (by simp;omega) (by simp[hdn]) hQ
  | cons y k=>
   have hne:qac (y::k)≠[]:=by simp[qac]
   have hszd:=qhm (y::k)
   have hlen:(qaq done).length=done.length*2:=qaz _
   have hkl:=qag (y::k)
   have hkf:flat (qac (y::k))=qaq (y::k):=(qbr _).symm
   have hkfl:(qaq (y::k)).length=(y::k).length*2:=qaz _
   have hsum':done.length+(y::k).length≤1000000000:=by omega
   have hpos:0<(y::k).length:=by simp
   generalize hyk:y::k=yk at*
   have fX:=(cJ8 @hd @hg @hw @hne @hszd @hlen @hkl (cJ6 @hkf @hkfl @ne_eq.{1} @not_false_eq_true @true_and @and_true))
   refine qaa qhw.eq_1 ?_
   refine wR0 1100 [6,25,26,27,28] fX ?_
   refine wT @hd ?_
   refine wR0 1200 [6,8,25,26,27] fX ?_
   refine wR0 1300 [6,25,26,27] fX ?_
   refine wR0 1400 [6,25,26,27] fX ?_
   refine wN ?_
   have:=ih (pre++[yk]) (i+1) (done++yk) (by simp[he]) (by simp;omega) (by simp[hdn]) hQ
   rw[qa8] at this
   simp only[List.length_append] at this
   try simp only[Nat.add_mul] at this
   exact this
theorem qup (xss:List (List V))(hs:xss.flatten.length≤1000000)(hl:xss.length≤1000000)(hne:xss.flatten≠[]):TC Tryz.prog 117 [.list (llsV xss)] (hpL []) (.sl 508 ((qaq xss.flatten).length) 2 0 xss.flatten.length) (hpL [(508,.live ⟨25,qaq xss.flatten⟩)]):=by
 have hpos:0<xss.flatten.length:=by cases h:xss.flatten with | nil=>exact absurd h hne | cons _ _=>simp
 have hg:=quD xss.flatten.length hpos hs
 refine qcj fn117 (by simp) ?_
 unfold i117
 simp only[argL]
 refine wR0 0 [0] cJ0 ?_
 refine wR0 100 [0,3] cJ0 ?_
 refine wR0 200 [0,3,9,10,11] cJ0 ?_
 refine wL ?_
 refine qum xss hs hl _ xss [] 0 rfl rfl ?_
 ·intro i
  refine wN ?_
  refine wRn 900 [0,6] cJ0 ?_
  refine rU [] [(508,.live ⟨25,[]⟩)] cJ0 ?_
  refine⟨_,hg,rE cJ0 ?_⟩
  refine wR0 1000 [6,25,26,27] cJ0 ?_
  refine wL ?_
  refine qun xss hs hl _ xss [] 0 [] rfl rfl rfl ?_
  ·intro i dn hdn
   refine wN ?_
   refine wR0 1500 [2] cJ0 ?_
   refine wE ?_
   refine wN ?_
   exact⟨by simp,by subst hdn;simp only[qaz];rfl,by subst hdn;rfl⟩
end
section
open Go.RowKit
def actsR (m:Md)(r:Rl):Bool:=btw r.act 0 2&&btw r.chan 0 ((m.places.length:Int) - 1)&&btw r.lett 0 ((m.letters.length:Int) - 1)&&!(r.act==0&&(r.chan != 0 || r.lett != 0))
def qnM (low:Int)(cnt cou chn nes tim bra:Bool)(m:Md)(r:Rl):Bool:=
 btw r.from_ low ((m.states.length:Int) - 1)&&btw r.to_ 0 ((m.states.length:Int) - 1)&&
 (if cnt then ql3 r.need m.places.length 0 16&&ql3 r.give m.places.length 0 16 else !decide ((r.need.length:Int) > 0)&&!decide ((r.give.length:Int) > 0))&&
 (!decide ((r.move.length:Int) > 0) || (cou&&ql3 r.move m.places.length (-1) ((m.places.length:Int) - 1)))&&
 (if chn then actsR m r else !(r.chan != 0)&&!(r.act != 0)&&!(r.lett != 0))&&
 (if nes then fewR r.path m.levels ((m.letters.length:Int) - 1)&&fewR r.next m.levels ((m.letters.length:Int) - 1)&&!((r.path.length:Int)+r.next.length==0) else !decide ((r.path.length:Int) > 0)&&!decide ((r.next.length:Int) > 0))&&
 (if tim then timedR m r else !decide ((r.takes.length:Int) > 0)&&!decide ((r.makes.length:Int) > 0))&&
 (if bra then (if r.from_ == -1 then r.second == -1&&r.need.all fun x=>btw x 0 0 else btw r.second (-1) ((m.states.length:Int) - 1)) else r.second==0)
theorem fB {H:Heap}{a b:Bool}(h:a=b:=by simp only[qnM,eq_self,if_true,Bool.false_eq_true,if_false,Bool.false_and,Bool.true_and,Bool.or_false];grind):Frz H (.bool a) (.bool b):=qad h
end
section
open Go.RowKit
set_option maxHeartbeats 2000000
set_option maxHeartbeats 8000000 in
theorem qo6 (m:Md)(r:Rl)(hm:m.fit)(hr:r.fit)(ha:0≤m.age∧m.age≤1000)(hk:m.kind=4):TP Tryz.prog 98 [qax m,qbK r] (.bool (qnM 0 false false false true false false m r)):=by
 have kb1:(m.kind==1)=false:=by rw[hk];rfl
 have kb2:(m.kind==2)=false:=by rw[hk];rfl
 have kb3:(m.kind==3)=false:=by rw[hk];rfl
 have kb4:(m.kind==4)=true:=by rw[hk];rfl
 have kb5:(m.kind==5)=false:=by rw[hk];rfl
 have kb6:(m.kind==6)=false:=by rw[hk];rfl
 have kn1:(m.kind != 1)=!false:=by rw[hk];rfl
 have kn6:(m.kind != 6)=!false:=by rw[hk];rfl
 have hms:=hm.states
 have hmp:=hm.places
 have hml:=hm.letters
 have hpn:=hr.path
 have hnn:=hr.next
 have hw1:IntKind.wrap .i64 ((m.states.length:Int) - 1)=(m.states.length:Int) - 1:=wrap64 (by omega) (by omega)
 have hw2:IntKind.wrap .i64 ((m.places.length:Int) - 1)=(m.places.length:Int) - 1:=wrap64 (by omega) (by omega)
 have hw3:IntKind.wrap .i64 ((m.letters.length:Int) - 1)=(m.letters.length:Int) - 1:=wrap64 (by omega) (by omega)
 have hw4:IntKind.wrap .i64 ((r.path.length:Int)+(r.next.length:Int))=(r.path.length:Int)+(r.next.length:Int):=wrap64 (by omega) (by omega)
 rcases hmv:decide ((r.move.length:Int) > 0) with _ | _
 ·have fX:=(cJ8 @qaf @qah @qcs @kb1 @kb2 @kb3 @kb4 (cJ8 @kb5 @kb6 @kn1 @kn6 @hw1 @hw2 @hw3 (cJ7 @hw4 @hmv @hw1 @Bool.not_true @Bool.not_false @Bool.true_or @Bool.false_or)))
  refine qan fn98 (by simp) ?_
  unfold i98
  simp only[argL,qax,mdC,qbK,rlC]
  refine wR0 0 [2,3] fX ?_
  refine wR0 100 [2,3,5] fX ?_
  refine wR0 200 [2,3,5,10] fX ?_
  refine wF fX ?_
  refine wRn 400 [2,3,29] fX ?_
  refine rC fX ?_
  refine⟨_,qav _ _ _,rN fX ?_⟩
  refine rCi fX ?_
  refine⟨_,fun hw=>qav _ _ _,rE fX ?_⟩
  refine wS cJ0 (fun hc400=>?_) (fun hc400=>?_)
  ·skip
   refine wR0 500 [4] fX ?_
   refine wP ?_
   exact fB
  ·skip
   refine wR0 600 [2,3,6] fX ?_
   refine wR0 700 [2,3,6,7] fX ?_
   refine wR0 800 [2,3,7,46] fX ?_
   refine wF fX ?_
   refine wR0 1100 [2,3,7,72] fX ?_
   refine wS cJ0 (fun hc1100=>?_) (fun hc1100=>?_)
   ·skip
    refine wR0 1200 [4] fX ?_
    refine wP ?_
    exact fB
   ·skip
    refine wR0 1300 [2,3,7,94] fX ?_
    refine wF fX ?_
    refine wR0 1500 [2,3,95] fX ?_
    refine wF fX ?_
    refine wR0 1800 [2,3,147] fX ?_
    refine wS cJ0 (fun hc1800=>?_) (fun hc1800=>?_)
    ·skip
     refine wR0 1900 [4] fX ?_
     refine wP ?_
     exact fB
    ·skip
     refine wR0 2000 [2,3,150] fX ?_
     refine wT fX ?_
     refine wRn 2100 [2,3,182] fX ?_
     refine rC fX ?_
     refine⟨_,qq3 _ _ _ hr.path,rN fX ?_⟩
     refine rCi fX ?_
     refine⟨_,fun hw=>qq3 _ _ _ hr.next,rE fX ?_⟩
     refine wS cJ0 (fun hc2100=>?_) (fun hc2100=>?_)
     ·skip
      refine wR0 2200 [4] fX ?_
      refine wP ?_
      exact fB
     ·skip
      refine wR0 2500 [2,3,195] fX ?_
      refine wF fX ?_
      refine wR0 2800 [2,3,209] fX ?_
      refine wS cJ0 (fun hc2800=>?_) (fun hc2800=>?_)
      ·skip
       refine wR0 2900 [4] fX ?_
       refine wP ?_
       exact fB
      ·skip
       refine wR0 3000 [2,3,212] fX ?_
       refine wT fX ?_
       refine wR0 3100 [4] fX ?_
       refine wP ?_
       exact fB
 ·have fX:=(cJ8 @qaf @qah @qcs @kb1 @kb2 @kb3 @kb4 (cJ8 @kb5 @kb6 @kn1 @kn6 @hw1 @hw2 @hw3 (cJ7 @hw4 @hmv @hw1 @Bool.not_true @Bool.not_false @Bool.true_or @Bool.false_or)))
  refine qan fn98 (by simp) ?_
  unfold i98
  simp only[argL,qax,mdC,qbK,rlC]
  refine wR0 0 [2,3] fX ?_
  refine wR0 100 [2,3,5] fX ?_
  refine wR0 200 [2,3,5,10] fX ?_
  refine wF fX ?_
  refine wRn 400 [2,3,29] fX ?_
  refine rC fX ?_
  refine⟨_,qav _ _ _,rN fX ?_⟩
  refine rCi fX ?_
  refine⟨_,fun hw=>qav _ _ _,rE fX ?_⟩
  refine wS cJ0 (fun hc400=>?_) (fun hc400=>?_)
  ·skip
   refine wR0 500 [4] fX ?_
   refine wP ?_
   exact fB
  ·skip
   refine wR0 600 [2,3,6] fX ?_
   refine wR0 700 [2,3,6,7] fX ?_
   refine wR0 800 [2,3,7,46] fX ?_
   refine wF fX ?_
   refine wR0 1100 [2,3,7,72] fX ?_
   refine wS cJ0 (fun hc1100=>?_) (fun hc1100=>?_)
   ·skip
    refine wR0 1200 [4] fX ?_
    refine wP ?_
    exact fB
   ·skip
    refine wR0 1300 [2,3,7,94] fX ?_
    refine wT fX ?_
    refine wR0 1400 [4] fX ?_
    refine wP ?_
    exact fB
end
section
open Go.RowKit
theorem lenE {α:Type}(l:List α):(!decide ((l.length:Int) > 0))=(l.length==0):=by
 rw[Bool.eq_iff_iff];simp only[Bool.not_eq_true',decide_eq_false_iff_not,beq_iff_eq];omega
theorem bneE (x:Int):(!(x != 0))=(x==0):=by simp[bne]
theorem sum0 (a b:Nat):(!((a:Int)+b==0))=decide ((a:Int)+b > 0):=by
 rw[Bool.eq_iff_iff];simp;omega
theorem refl3 (a:ByteArray):(a.toList==a.toList)=true:=by simp
theorem qq5 (m:Md)(r:Rl)(hk:m.kind=4):qnM 0 false false false true false false m r=qbF m r:=by
 have hb:(m.kind==6)=false:=by rw[hk];rfl
 have h1:m.kind≠1:=by omega
 have h2:¬(m.kind=2∨m.kind=3):=by omega
 simp only[qnM,qbF,qke,qlW,qkZ,if_neg h1,if_neg h2,if_pos hk,hb,eq_self,if_true,Bool.false_eq_true,if_false,qhU,fewR,sum0,lenE,bneE,qpa,qgn,qrh,qpb,beq_self_eq_true,Bool.false_and,Bool.true_and,Bool.and_true,Bool.or_false]
 grind
end
end Go.Proofs.YtpplncjaihgimaaGreat
