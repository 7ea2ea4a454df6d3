/- Contracts of functions of the program, for all arguments that they name. -/
import Derived.OrdersIn
import Derived.Test.YtkbjpglehdhjfaaGreatDoorK01
namespace Go.Proofs.YtkbjpglehdhjfaaGreatDoor
set_option linter.unusedVariables false
section
open Go.RowKit
section
variable {P:Program} {o:Oper} {a:Act} {w:World} {A:Sta} {μ:Nat→Nat} {H:Heap} {env:Nat→T} {v:T} {io:IOp} {q:Req} {fresh:Nat} {F:List Nat} {U:List (Nat×Slot)}
theorem qbc {x:T}(h:(Req.val x).run fresh H=some (v,F,U)):v=x∧F=[]∧U=[]:=by
 simp only[Req.run,Option.some.injEq,Prod.mk.injEq] at h
 exact⟨h.1.symm,h.2.1.symm,h.2.2.symm⟩
theorem qgr {α:Type}{xs:Array α}{a b:α}(h:xs.toList=[a,b]):xs=#[a,b]:=by cases xs;simp at h;subst h;rfl
theorem qgq {α:Type}{xs:Array α}{a:α}(h:xs.toList=[a]):xs=#[a]:=by cases xs;simp at h;subst h;rfl
set_option maxHeartbeats 1000000 in
theorem qso (hc:qdn P o=some io)(he:EnvR w A μ H a env)(hS:Sim w A μ H)(hq:req env io=some q)(hv:q.run fresh H=some (v,F,U)):Does P o a w A μ H v (H.upd U):=by
 unfold qdn at hc
 split at hc
 ·rename_i x ho
  cases hx:opd x with
  | none=>simp[hx] at hc
  | some y=>
   simp only[hx,Option.map_some,Option.some.injEq] at hc;subst hc
   simp only[req,Option.some.injEq] at hq;subst hq
   obtain⟨rfl,rfl,rfl⟩:=qbc hv
   exact qtD (.inl ho) hx he hS
 ·rename_i x ho
  cases hx:opd x with
  | none=>simp[hx] at hc
  | some y=>
   simp only[hx,Option.map_some,Option.some.injEq] at hc;subst hc
   simp only[req,Option.some.injEq] at hq;subst hq
   obtain⟨rfl,rfl,rfl⟩:=qbc hv
   exact qtD (.inr ho) hx he hS
 ·rename_i c x y ho
  split at hc
  ·rename_i c' x' y' h1 h2 h3
   injection hc with hc;subst hc
   simp only[req] at hq
   split at hq
   ·rename_i t ht
    injection hq with hq;subst hq
    obtain⟨rfl,rfl,rfl⟩:=qbc hv
    exact qsN ho h1 h2 h3 he hS ht
   ·cases hq
  ·cases hc
 ·rename_i t ho
  split at hc
  ·rename_i e zs h1 h2
   split at hc
   ·rename_i hl
    injection hc with hc;subst hc
    simp only[req,Option.some.injEq] at hq;subst hq
    simp only[Req.run] at hv
    split at hv
    ·rename_i hf
     simp only[if_true,Option.some.injEq,Prod.mk.injEq] at hv
     obtain⟨rfl,rfl,rfl⟩:=hv
     exact qqO ho h2 hS hf
    ·cases hv
   ·cases hc
  ·cases hc
 ·rename_i t x ho
  split at hc
  ·rename_i y hx
   injection hc with hc;subst hc
   simp only[req] at hq
   split at hq
   ·rename_i hok
    injection hq with hq;subst hq
    simp only[Req.run] at hv
    split at hv
    ·rename_i hf
     simp only[if_true,Option.some.injEq,Prod.mk.injEq] at hv
     obtain⟨rfl,rfl,rfl⟩:=hv
     exact quG ho hx he hS hok hf
    ·cases hv
   ·cases hq
  ·cases hc
 ·rename_i t ps ho
  split at hc
  ·rename_i fs zs hu hz
   split at hc
   ·rename_i l hl
    split at hc
    ·rename_i hall
     injection hc with hc;subst hc
     simp only[req] at hq
     cases hf:qcP env l zs with
     | none=>simp[hf] at hq
     | some cs=>
      simp only[hf,Option.map_some,Option.some.injEq] at hq;subst hq
      obtain⟨rfl,rfl,rfl⟩:=qbc hv
      exact qk9 ho hz (.inl ⟨fs,hu,hl,by simpa using hall⟩) he hS hf
    ·cases hc
   ·cases hc
  ·rename_i n el zs hu hz
   split at hc
   ·rename_i i hi
    split at hc
    ·rename_i l hl
     injection hc with hc;subst hc
     simp only[req] at hq
     cases hf:qcP env l zs with
     | none=>simp[hf] at hq
     | some cs=>
      simp only[hf,Option.map_some,Option.some.injEq] at hq;subst hq
      obtain⟨rfl,rfl,rfl⟩:=qbc hv
      exact qk9 ho hz (.inr ⟨n,el,i,hu,hi,hl⟩) he hS hf
    ·cases hc
   ·cases hc
  ·cases hc
 ·rename_i t n ps ho
  split at hc
  ·rename_i el hu
   split at hc
   ·rename_i e i zs h1 h2 h3
    split at hc
    ·rename_i l hl
     split at hc
     ·rename_i hd
      obtain⟨d1,d2,d3,d4⟩:=hd
      injection hc with hc;subst hc
      simp only[req] at hq
      cases hf:qcP env l (repl n zs) with
      | none=>simp[hf] at hq
      | some cs=>
       simp only[hf,Option.map_some,Option.some.injEq] at hq;subst hq
       simp only[Req.run] at hv
       split at hv
       ·rename_i hfr
        simp only[Bool.false_eq_true,if_false,Option.some.injEq,Prod.mk.injEq] at hv
        obtain⟨rfl,rfl,rfl⟩:=hv
        rcases d4 with d4 | d4
        ·exact qnr ho hu h2 d1 h3 d3 hl d2 d4 he hS hfr hf
        ·rcases Nat.eq_zero_or_pos n with h0 | h0
         ·subst h0
          exact qqW ho hu h2 hl d4 hf he hS hfr
         ·exact qnr ho hu h2 d1 h3 d3 hl d2 h0 he hS hfr hf
       ·cases hv
     ·cases hc
    ·cases hc
   ·cases hc
  ·cases hc
 ·rename_i t x ho
  split at hc
  ·rename_i e x' hl hx
   injection hc with hc;subst hc
   simp only[req] at hq
   split at hq
   ·rename_i id tot off hr
    injection hq with hq;subst hq
    simp only[Req.run] at hv
    split at hv
    ·rename_i b hb
     split at hv
     ·rename_i hd
      simp only[Option.some.injEq,Prod.mk.injEq] at hv
      obtain⟨rfl,rfl,rfl⟩:=hv
      exact qlb ho hl hx he hS hr hb hd.1 hd.2
     ·cases hv
    ·cases hv
   ·rename_i cs hr
    split at hq
    ·rename_i hn
     injection hq with hq;subst hq
     obtain⟨rfl,rfl,rfl⟩:=qbc hv
     exact qla ho hl hx he hS hr hn
    ·cases hq
   ·cases hq
  ·cases hc
 ·rename_i t x y ho
  split at hc
  ·rename_i e x' y' hl hx hy
   injection hc with hc;subst hc
   simp only[req] at hq
   split at hq
   ·rename_i id tot off hr
    split at hq
    ·rename_i hk
     injection hq with hq;subst hq
     simp only[Req.run] at hv
     split at hv
     ·rename_i b hb
      split at hv
      ·rename_i hd
       simp only[Option.some.injEq,Prod.mk.injEq] at hv
       obtain⟨rfl,rfl,rfl⟩:=hv
       exact qqY ho hl hx hy he hS hr hk.1 hk.2 hb hd.1 hd.2
      ·cases hv
     ·cases hv
    ·cases hq
   ·cases hq
  ·cases hc
 ·rename_i op t x y t' ho
  split at hc
  ·rename_i x' y' hx hy
   injection hc with hc;subst hc
   simp only[req] at hq
   cases hb:binT op (eqk P t) (x'.ev env) (y'.ev env) with
   | none=>simp[hb] at hq
   | some r=>
    simp only[hb,Option.map_some,Option.some.injEq] at hq;subst hq
    obtain⟨rfl,rfl,rfl⟩:=qbc hv
    exact quF ho hx hy he hS hb
  ·cases hc
 ·rename_i op t x ho
  cases hx:opd x with
  | none=>simp[hx] at hc
  | some y=>
   simp only[hx,Option.map_some,Option.some.injEq] at hc;subst hc
   simp only[req] at hq
   split at hq
   ·rename_i b hb
    injection hq with hq;subst hq
    obtain⟨rfl,rfl,rfl⟩:=qbc hv
    exact quM ho hx he hS hb
   ·rename_i k n hb
    injection hq with hq;subst hq
    obtain⟨rfl,rfl,rfl⟩:=qbc hv
    exact quL ho hx he hS hb
   ·cases hq
 ·rename_i s d x ho
  split at hc
  ·rename_i ds k x' hs hd hx
   injection hc with hc;subst hc
   simp only[req] at hq
   split at hq
   ·rename_i j n hb
    injection hq with hq;subst hq
    obtain⟨rfl,rfl,rfl⟩:=qbc hv
    exact qsK ho hs hd hx he hS hb
   ·cases hq
  ·rename_i el x' hs hd hx
   split at hc
   ·rename_i hel
    injection hc with hc;subst hc
    exact quE ho hs hd hel hx he hS hq hv
   ·cases hc
  ·cases hc
 ·rename_i s x f ho
  split at hc
  ·rename_i fs x' hu hx
   split at hc
   ·rename_i fd hf
    split at hc
    ·rename_i i hi
     split at hc
     ·rename_i h0
      injection hc with hc;subst hc
      cases q with
      | val r=>
       obtain⟨rfl,rfl,rfl⟩:=qbc hv
       exact qqQ ho hu hf hi h0 hx he hS hq
      | _=>
       exfalso
       simp only[req] at hq
       split at hq
       ·simp at hq
       ·split at hq<;>simp at hq
       ·simp at hq
     ·cases hc
    ·cases hc
   ·cases hc
  ·cases hc
 ·rename_i s x f ho
  split at hc
  ·rename_i fs x' hu hx
   split at hc
   ·rename_i fd hf
    split at hc
    ·rename_i e hl
     injection hc with hc;subst hc
     simp only[req] at hq
     split at hq
     ·rename_i cs hr
      split at hq
      ·rename_i hn
       injection hq with hq;subst hq
       obtain⟨rfl,rfl,rfl⟩:=qbc hv
       exact qqR ho hu hf hl hx he hS hr hn
      ·cases hq
     ·cases hq
    ·cases hc
   ·cases hc
  ·cases hc
 ·rename_i t x i ho
  split at hc
  ·rename_i el x' i' hu hx hi
   cases hl:lay P el with
   | none=>simp[hl] at hc
   | some e=>
    simp only[hl,Option.map_some,Option.some.injEq] at hc;subst hc
    cases q with
    | val r=>
     obtain⟨rfl,rfl,rfl⟩:=qbc hv
     exact qqS ho hu hl hx hi he hS hq
    | _=>
     exfalso
     simp only[req] at hq
     split at hq
     ·split at hq<;>simp at hq
     ·split at hq<;>simp at hq
     ·simp at hq
  ·rename_i n el x' i' hu hx hi
   cases hl:lay P el with
   | none=>simp[hl] at hc
   | some e=>
    simp only[hl,Option.map_some,Option.some.injEq] at hc;subst hc
    cases q with
    | val r=>
     obtain⟨rfl,rfl,rfl⟩:=qbc hv
     exact qok ho hu hl hx hi he hS hq
    | _=>
     exfalso
     simp only[req] at hq
     split at hq
     ·split at hq<;>simp at hq
     ·split at hq<;>simp at hq
     ·simp at hq
  ·cases hc
 ·rename_i t x i ho
  split at hc
  ·rename_i n el x' i' hu hx hi
   cases hl:lay P el with
   | none=>simp[hl] at hc
   | some e=>
    simp only[hl,Option.map_some,Option.some.injEq] at hc;subst hc
    simp only[req] at hq
    split at hq
    ·rename_i cs k j hr hj
     split at hq
     ·rename_i hd
      injection hq with hq;subst hq
      obtain⟨rfl,rfl,rfl⟩:=qbc hv
      exact qqT ho hu hl hx hi he hS hr hj hd.1 hd.2.1 hd.2.2
     ·cases hq
    ·cases hq
  ·rename_i x' i' hu hx hi
   injection hc with hc;subst hc
   simp only[req] at hq
   split at hq
   ·rename_i s k j hr hj
    split at hq
    ·rename_i hd
     injection hq with hq;subst hq
     obtain⟨rfl,rfl,rfl⟩:=qbc hv
     exact qol ho hu hx hi he hS hr hj hd.1 hd.2
    ·cases hq
   ·cases hq
  ·cases hc
 ·rename_i t x lo hi ho
  split at hc
  ·rename_i el x' lo' hi' hu hx h1 h2
   cases hl:lay P el with
   | none=>simp[hl] at hc
   | some e=>
    simp only[hl,Option.map_some,Option.some.injEq] at hc;subst hc
    simp only[req] at hq
    cases hb:qh6 e (x'.ev env) (lo'.map (·.ev env)) (hi'.map (·.ev env)) with
    | none=>simp[hb] at hq
    | some r=>
     simp only[hb,Option.map_some,Option.some.injEq] at hq;subst hq
     obtain⟨rfl,rfl,rfl⟩:=qbc hv
     exact qqX ho hu hl hx h1 h2 he hS hb
  ·rename_i x' lo' hi' hu hx h1 h2
   injection hc with hc;subst hc
   simp only[req] at hq
   split at hq
   ·rename_i s hr
    split at hq
    ·rename_i l m hl hm
     split at hq
     ·rename_i hd
      injection hq with hq;subst hq
      obtain⟨rfl,rfl,rfl⟩:=qbc hv
      exact qom ho hu hx h1 h2 he hS hr hl hm hd.1 hd.2
     ·cases hq
    ·cases hq
   ·cases hq
  ·cases hc
 ·rename_i t x hi mx ho
  split at hc
  ·rename_i el x' hu hx
   split at hc
   ·rename_i hz
    simp only[Bool.and_eq_true] at hz
    injection hc with hc;subst hc
    cases q with
    | val r=>
     obtain⟨rfl,rfl,rfl⟩:=qbc hv
     exact quI ho hu hz.2 hz.1.1 hz.1.2 hx he hS hq
    | _=>
     exfalso
     simp only[req] at hq
     split at hq<;>simp at hq
   ·cases hc
  ·cases hc
 ·rename_i t ho
  injection hc with hc;subst hc
  simp only[req,Option.some.injEq] at hq;subst hq
  simp only[Req.run] at hv
  split at hv
  ·rename_i hf
   simp only[Option.some.injEq,Prod.mk.injEq] at hv
   obtain⟨rfl,rfl,rfl⟩:=hv
   exact qqU ho hS hf
  ·cases hv
 ·rename_i t m k ok ho
  split at hc
  ·rename_i kt et m' k' hu hm hk
   split at hc
   ·rename_i kk z hkk hz
    injection hc with hc;subst hc
    simp only[req] at hq
    split at hq
    ·rename_i id hr
     split at hq
     ·rename_i hki
      injection hq with hq;subst hq
      exact qsL ho hu hkk hz hm hk he hS hr hki hv
     ·cases hq
    ·cases hq
   ·cases hc
  ·cases hc
 ·rename_i t m k x ho
  split at hc
  ·rename_i kt et m' k' x' hu hm hk hx
   split at hc
   ·rename_i kk hkk
    injection hc with hc;subst hc
    simp only[req] at hq
    split at hq
    ·rename_i id hr
     split at hq
     ·rename_i hki
      injection hq with hq;subst hq
      exact qnq (.inl ho) hu hkk hm hk hx he hS hr hki hv
     ·cases hq
    ·cases hq
   ·cases hc
  ·cases hc
 ·rename_i t m k x ho
  split at hc
  ·rename_i kt et m' k' x' hu hm hk hx
   split at hc
   ·rename_i kk hkk
    injection hc with hc;subst hc
    simp only[req] at hq
    split at hq
    ·rename_i id hr
     split at hq
     ·rename_i hki
      injection hq with hq;subst hq
      exact qnq (.inr ho) hu hkk hm hk hx he hS hr hki hv
     ·cases hq
    ·cases hq
   ·cases hc
  ·cases hc
 ·rename_i f first caps ho
  split at hc
  ·rename_i h0
   cases hx:opds caps.toList with
   | none=>simp[hx] at hc
   | some ys=>
    simp only[hx,Option.map_some,Option.some.injEq] at hc;subst hc
    simp only[req,Option.some.injEq] at hq;subst hq
    obtain⟨rfl,rfl,rfl⟩:=qbc hv
    exact qsM ho h0 hx he hS
  ·cases hc
 ·rename_i x i ho
  cases hx:opd x with
  | none=>simp[hx] at hc
  | some y=>
   simp only[hx,Option.map_some,Option.some.injEq] at hc;subst hc
   simp only[req] at hq
   split at hq
   ·rename_i vs hr
    split at hq
    ·rename_i hi
     injection hq with hq;subst hq
     obtain⟨rfl,rfl,rfl⟩:=qbc hv
     exact ql1 ho hx he hS hr hi
    ·cases hq
   ·cases hq
 ·rename_i x ho
  cases hx:opd x with
  | none=>simp[hx] at hc
  | some y=>
   simp only[hx,Option.map_some,Option.some.injEq] at hc;subst hc
   have key:q=.val (y.ev env)∧(match y.ev env with | .ref .. | .ptr _ | .fn ..=>true | _=>false)=true:=by
    simp only[req] at hq
    split at hq
    ·rename_i hr;injection hq with hq;rw[hr];exact⟨hq.symm,rfl⟩
    ·rename_i hr;injection hq with hq;rw[hr];exact⟨hq.symm,rfl⟩
    ·rename_i hr;injection hq with hq;rw[hr];exact⟨hq.symm,rfl⟩
    ·cases hq
   obtain⟨rfl,hk⟩:=key
   obtain⟨rfl,rfl,rfl⟩:=qbc hv
   exact qqV ho hx he hS hk
 ·rename_i t l c ho
  split at hc
  ·rename_i el l' c' hu hl hcx
   split at hc
   ·rename_i e i zs h1 h2 h3
    split at hc
    ·rename_i hd
     obtain⟨d1,d2,d3⟩:=hd
     injection hc with hc;subst hc
     simp only[req] at hq
     split at hq
     ·rename_i k n j m hn hm
      split at hq
      ·rename_i hz
       injection hq with hq;subst hq
       simp only[Req.run] at hv
       split at hv
       ·rename_i hfr
        simp only[Bool.false_eq_true,if_false,Option.some.injEq,Prod.mk.injEq] at hv
        obtain⟨rfl,rfl,rfl⟩:=hv
        exact quK ho hu h2 d1 d2 h3 d3 hl hcx he hS hfr hn hm hz.1 hz.2.1 hz.2.2
       ·cases hv
      ·cases hq
     ·cases hq
    ·cases hc
   ·cases hc
  ·cases hc
 ·rename_i args argTypes ho
  split at hc
  ·rename_i x t hx1 ht1
   rw[qgq hx1,qgq ht1] at ho
   split at hc
   ·rename_i el x' hu hx
    injection hc with hc;subst hc
    simp only[req] at hq
    cases hl:lenT (x'.ev env) with
    | none=>simp[hl] at hq
    | some n=>
     simp only[hl,Option.map_some,Option.some.injEq] at hq;subst hq
     obtain⟨rfl,rfl,rfl⟩:=qbc hv
     exact quJ ho hu hx he hS hl
   ·rename_i x' hu hx
    injection hc with hc;subst hc
    simp only[req] at hq
    split at hq
    ·rename_i s hs
     injection hq with hq;subst hq
     obtain⟨rfl,rfl,rfl⟩:=qbc hv
     exact qsP ho hu hx he hS hs
    ·cases hq
   ·rename_i n el x' hu hx
    injection hc with hc;subst hc
    simp only[req,Option.some.injEq] at hq;subst hq
    obtain⟨rfl,rfl,rfl⟩:=qbc hv
    exact qsI (ty:=#[]) (tt:=#[]) ho hu hS
   ·cases hc
  ·cases hc
 ·rename_i args argTypes ho
  split at hc
  ·rename_i x y t t' hx1 ht1
   rw[qgr hx1,qgr ht1] at ho
   split at hc
   ·rename_i el x' y' hu hx hy
    split at hc
    ·rename_i e i hl hi
     split at hc
     ·rename_i htt
      subst htt
      split at hc
      ·rename_i hd
       obtain⟨d2,d3,d4⟩:=hd
       injection hc with hc;subst hc
       simp only[req] at hq
       cases hz:i.zero with
       | none=>simp[hz] at d4
       | some z=>
        simp only[hz,Option.map_some,Option.some.injEq] at d4
        exact quD ho hu hi hz d2 d4 d3 hx hy he hS hq hv
      ·cases hc
     ·split at hc
      ·rename_i k' zs hu' hz
       split at hc
       ·rename_i hd
        obtain⟨d1,d2,d3⟩:=hd
        injection hc with hc;subst hc
        exact qsJ ho hu hu' hi d1 d2 hz d3 hx hy he hS hq hv
       ·cases hc
      ·cases hc
    ·cases hc
   ·cases hc
  ·cases hc
 ·rename_i args argTypes ho
  split at hc
  ·rename_i x t hx1 ht1
   rw[qgq hx1,qgq ht1] at ho
   split at hc
   ·rename_i el x' hu hx
    injection hc with hc;subst hc
    have key:q=.val (.int .i64 0)∧(x'.ev env=.nil∨x'.ev env=.emp):=by
     simp only[req] at hq
     split at hq
     ·rename_i hr;injection hq with hq;exact⟨hq.symm,.inl hr⟩
     ·rename_i hr;injection hq with hq;exact⟨hq.symm,.inr hr⟩
     ·cases hq
    obtain⟨rfl,hk⟩:=key
    obtain⟨rfl,rfl,rfl⟩:=qbc hv
    exact quH ho hu hx he hS hk
   ·cases hc
  ·cases hc
 ·rename_i args argTypes ho
  split at hc
  ·rename_i x t hx1 ht1
   rw[qgq hx1,qgq ht1] at ho
   split at hc
   ·rename_i el x' hu hx
    split at hc
    ·rename_i e i zs hl hi hz
     split at hc
     ·rename_i hd
      injection hc with hc;subst hc
      exact qqP ho hu hi hd.1 hz hd.2 hx he hS hq hv
     ·cases hc
    ·cases hc
   ·cases hc
  ·cases hc
 ·rename_i args argTypes ho
  split at hc
  ·rename_i x y hx1
   rw[qgr hx1] at ho
   split at hc
   ·rename_i x' y' hx hy
    injection hc with hc;subst hc
    simp only[req] at hq
    split at hq
    ·rename_i k p j r h1 h2
     injection hq with hq;subst hq
     obtain⟨rfl,rfl,rfl⟩:=qbc hv
     exact qtC (isMax:=false) ho hx hy he hS h1 h2
    ·cases hq
   ·cases hc
  ·cases hc
 ·rename_i args argTypes ho
  split at hc
  ·rename_i x y hx1
   rw[qgr hx1] at ho
   split at hc
   ·rename_i x' y' hx hy
    injection hc with hc;subst hc
    simp only[req] at hq
    split at hq
    ·rename_i k p j r h1 h2
     injection hq with hq;subst hq
     obtain⟨rfl,rfl,rfl⟩:=qbc hv
     exact qtC (isMax:=true) ho hx hy he hS h1 h2
    ·cases hq
   ·cases hc
  ·cases hc
 ·rename_i t x lo hi mx ho
  split at hc
  ·rename_i el x' lo' hi' mx' hu hx h1 h2 h3
   split at hc
   ·rename_i hin
    injection hc with hc;subst hc
    have hk:q=.val .undef:=by
     simp only[req] at hq
     split at hq
     ·split at hq
      ·injection hq with hq;exact hq.symm
      ·cases hq
     ·cases hq
    subst hk
    obtain⟨rfl,rfl,rfl⟩:=qbc hv
    exact qsO ho hu hin hx h1 h2 h3 he hS hq
   ·cases hc
  ·cases hc
 ·cases hc
end
inductive IAct where
 | op (o:IOp)
 | call (c:ICall)
structure IRow where
 dst:Option Nat
 op:IAct
 guard:Option (Nat×Bool)
structure Rec where
 v:T
 F:List Nat
 U:List (Nat×Slot)
def putE (env:Nat→T)(d:Option Nat)(v:T):Nat→T:=match d with
 | some t=>fun i=>if i=t then v else env i
 | none=>env
def envS (S:Nat→Bool):Nat→List (Option Nat×Rec)→(Nat→T)→(Nat→T)
 | _,[],env=>env
 | k,x::l,env=>envS S (k+1) l (if S k=true then putE env x.1 x.2.v else env)
def qbJ (S:Nat→Bool):Nat→List (Option Nat×Rec)→Heap→Heap
 | _,[],H=>H
 | k,x::l,H=>qbJ S (k+1) l (if S k=true then H.upd x.2.U else H)
theorem qba {U:List (Nat×Slot)}{H:Heap}{id:Nat}(h:id∉U.map (·.1)):H.upd U id=H id:=by
 induction U generalizing H with
 | nil=>rfl
 | cons p U ih=>
  simp only[List.map_cons,List.mem_cons,not_or] at h
  show Heap.upd (H.set p.1 p.2) U id=H id
  rw[ih h.2,Heap.set_other _ _ h.1]
theorem qlj {U:List (Nat×Slot)}{H H':Heap}{id:Nat}(h:id∈U.map (·.1)):H.upd U id=H'.upd U id:=by
 induction U generalizing H H' with
 | nil=>simp at h
 | cons p U ih=>
  by_cases hm:id∈U.map (·.1)
  ·exact ih hm
  ·have:id=p.1:=by
    simp only[List.map_cons,List.mem_cons] at h
    exact h.resolve_right hm
   subst this
   show Heap.upd (H.set p.1 p.2) U p.1=Heap.upd (H'.set p.1 p.2) U p.1
   rw[qba hm,qba hm,Heap.set_same,Heap.set_same]
theorem qeT {S S':Nat→Bool}{t:Nat}:∀(l:List (Option Nat×Rec)) (k:Nat) (env env':Nat→T),(∀i x,l[i]? = some x→x.1=some t→S (k+i)=S' (k+i))→env t=env' t→envS S k l env t=envS S' k l env' t
 | [],_,_,_,_,h=>h
 | x::l,k,env,env',hS,h=>by
  refine qeT l (k+1) _ _ (fun i y hi hy=>by have:=hS (i+1) y (by simpa using hi) hy;rwa [show k+(i+1)=k+1+i by omega] at this) ?_
  by_cases hx:x.1=some t
  ·have:=hS 0 x rfl hx
   simp only[Nat.add_zero] at this
   rw[this]
   split
   ·simp[putE,hx]
   ·exact h
  ·have key:∀(b:Bool) (env:Nat→T),(if b=true then putE env x.1 x.2.v else env) t=env t:=fun b env=>by
    cases b
    ·rfl
    ·simp only[if_true]
     obtain⟨d,r⟩:=x
     cases d with
     | none=>rfl
     | some d=>
      have:t≠d:=fun e=>hx (by rw[e])
      simp[putE,this]
   rw[key,key];exact h
theorem qc7 {S S':Nat→Bool}{id:Nat}:∀(l:List (Option Nat×Rec)) (k:Nat) (H H':Heap),(∀i x,l[i]? = some x→id∈x.2.U.map (·.1)→S (k+i)=S' (k+i))→H id=H' id→qbJ S k l H id=qbJ S' k l H' id
 | [],_,_,_,_,h=>h
 | x::l,k,H,H',hS,h=>by
  refine qc7 l (k+1) _ _ (fun i y hi hy=>by have:=hS (i+1) y (by simpa using hi) hy;rwa [show k+(i+1)=k+1+i by omega] at this) ?_
  by_cases hx:id∈x.2.U.map (·.1)
  ·have:=hS 0 x rfl hx
   simp only[Nat.add_zero] at this
   rw[this]
   split
   ·exact qlj hx
   ·exact h
  ·have key:∀(b:Bool) (H:Heap),(if b=true then H.upd x.2.U else H) id=H id:=fun b H=>by
    cases b
    ·rfl
    ·simp only[if_true];exact qba hx
   rw[key,key];exact h
theorem qkl {j:Nat}:∀(l:List (Option Nat×Rec)) (k:Nat) (env:Nat→T) (x:Option Nat×Rec),l[j]? = some x→envS (fun i=>decide (i<k+j+1)) k l env=putE (envS (fun i=>decide (i<k+j)) k l env) x.1 x.2.v:=by
 induction j with
 | zero=>
  intro l k env x hx
  cases l with
  | nil=>simp at hx
  | cons y l=>
   simp only[List.getElem?_cons_zero,Option.some.injEq] at hx
   subst hx
   have none:∀(l:List (Option Nat×Rec)) (k0 b:Nat) (env:Nat→T),b≤k0→envS (fun i=>decide (i<b)) k0 l env=env:=fun l=>by
    induction l with
    | nil=>intros;rfl
    | cons z l ih=>
     intro k0 b env hb
     simp only[envS]
     rw[if_neg (by simp;omega)]
     exact ih _ _ _ (by omega)
   simp only[envS,Nat.add_zero]
   rw[if_pos (by simp),if_neg (by simp),none _ _ _ _ (by omega),none _ _ _ _ (by omega)]
 | succ j ih=>
  intro l k env x hx
  cases l with
  | nil=>simp at hx
  | cons y l=>
   simp only[envS]
   rw[if_pos (decide_eq_true (by omega)),if_pos (decide_eq_true (by omega))]
   have:=ih l (k+1) (putE env y.1 y.2.v) x (by simpa using hx)
   rw[show k+1+j+1=k+(j+1)+1 by omega,show k+1+j=k+(j+1) by omega] at this
   exact this
theorem qiF {j:Nat}:∀(l:List (Option Nat×Rec)) (k:Nat) (H:Heap) (x:Option Nat×Rec),l[j]? = some x→qbJ (fun i=>decide (i<k+j+1)) k l H=(qbJ (fun i=>decide (i<k+j)) k l H).upd x.2.U:=by
 induction j with
 | zero=>
  intro l k H x hx
  cases l with
  | nil=>simp at hx
  | cons y l=>
   simp only[List.getElem?_cons_zero,Option.some.injEq] at hx
   subst hx
   have none:∀(l:List (Option Nat×Rec)) (k0 b:Nat) (H:Heap),b≤k0→qbJ (fun i=>decide (i<b)) k0 l H=H:=fun l=>by
    induction l with
    | nil=>intros;rfl
    | cons z l ih=>
     intro k0 b H hb
     simp only[qbJ]
     rw[if_neg (by simp;omega)]
     exact ih _ _ _ (by omega)
   simp only[qbJ,Nat.add_zero]
   rw[if_pos (by simp),if_neg (by simp),none _ _ _ _ (by omega),none _ _ _ _ (by omega)]
 | succ j ih=>
  intro l k H x hx
  cases l with
  | nil=>simp at hx
  | cons y l=>
   simp only[qbJ]
   rw[if_pos (decide_eq_true (by omega)),if_pos (decide_eq_true (by omega))]
   have:=ih l (k+1) (H.upd y.2.U) x (by simpa using hx)
   rw[show k+1+j+1=k+(j+1)+1 by omega,show k+1+j=k+(j+1) by omega] at this
   exact this
inductive Ord (ops:Array Oper) (i:Nat):Nat→Prop
 | edge {j:Nat} {o:Oper} {e:Edge} (hj:ops[j]? = some o) (he:e∈o.after) (hb:Region.binds .any e=true) (hi:e.on=i):Ord ops i j
 | step {j:Nat} {o:Oper} {e:Edge} (hj:ops[j]? = some o) (he:e∈o.after) (hb:Region.binds .any e=true) (h:Ord ops i e.on):Ord ops i j
theorem qkf (ops:Array Oper):∀(l:List Oper) (acc:Array Nat),(∀i,i<l.length→ops[acc.size+i]? = l[i]?)→(∀j,j<acc.size→∀i,(acc.getD j 0).testBit i=true→Ord ops i j)→
 ∀j,∀i,((l.foldl (fun (acc:Array Nat) o=>acc.push (o.after.foldl (fun s e=>if Region.binds .any e then s ||| 2 ^ e.on ||| acc.getD e.on 0 else s) 0)) acc).getD j 0).testBit i=true→j<(acc.size+l.length)→Ord ops i j
 | [],acc,_,h,j,i,hb,hj=>h j (by simpa using hj) i hb
 | o::l,acc,hl,h,j,i,hb,hj=>by
  have h0:ops[acc.size]? = some o:=by simpa using hl 0 (by simp)
  simp only[List.foldl_cons] at hb
  refine qkf ops l _ (fun i hi=>?_) (fun j hj i hb=>?_) j i hb (by simp at hj ⊢;omega)
  ·have:=hl (i+1) (by simpa using hi)
   simpa [Nat.add_assoc,Nat.add_comm 1 i] using this
  ·simp only[Array.size_push] at hj
   by_cases e:j<acc.size
   ·refine h j e i ?_
    have e2:∀x,(acc.push x).getD j 0=acc.getD j 0:=fun x=>by
     simp[Array.getElem?_push,Nat.ne_of_lt e]
    rw[e2] at hb;exact hb
   ·have:j=acc.size:=by omega
    subst this
    have e2:∀x,(acc.push x).getD acc.size 0=x:=fun x=>by simp
    rw[e2] at hb
    have key:∀(es:List Edge) (s:Nat),(∀e∈es,e∈o.after)→(∀i,s.testBit i=true→Ord ops i acc.size)→∀i,(es.foldl (fun s e=>if Region.binds .any e then s ||| 2 ^ e.on ||| acc.getD e.on 0 else s) s).testBit i=true→Ord ops i acc.size:=fun es=>by
     induction es with
     | nil=>intro s _ hs i hb;exact hs i hb
     | cons e es ih=>
      intro s hm hs i hb
      simp only[List.foldl_cons] at hb
      refine ih _ (fun x hx=>hm x (List.mem_cons_of_mem _ hx)) (fun i hi=>?_) i hb
      by_cases hbi:Region.binds .any e=true
      ·rw[if_pos hbi] at hi
       simp only[Nat.testBit_or,Bool.or_eq_true] at hi
       rcases hi with (hi | hi) | hi
       ·exact hs i hi
       ·rw[Nat.testBit_two_pow] at hi
        exact .edge h0 (hm e (List.mem_cons_self ..)) hbi (by simpa using hi)
       ·refine .step h0 (hm e (List.mem_cons_self ..)) hbi ?_
        by_cases hlt:e.on<acc.size
        ·exact h _ hlt i hi
        ·exfalso
         have:acc.getD e.on 0=0:=by
          have:acc[e.on]? = none:=Array.getElem?_eq_none (by omega)
          simp[this]
         rw[this] at hi;simp at hi
      ·rw[if_neg hbi] at hi;exact hs i hi
    rw[←Array.foldl_toList] at hb
    exact key o.after.toList 0 (fun e he=>Array.mem_toList_iff.1 he) (fun i hi=>by simp at hi) i hb
theorem qnE {ops:Array Oper}{i j:Nat}(h:((Region.before ops).getD j 0).testBit i=true):Ord ops i j:=by
 unfold Region.before at h
 rw[←Array.foldl_toList] at h
 by_cases hj:j<ops.size
 ·exact qkf ops ops.toList #[] (fun i hi=>by simp) (fun j hj=>by simp at hj) j i h (by simpa using hj)
 ·exfalso
  have key:∀(l:List Oper) (acc:Array Nat),(l.foldl (fun (acc:Array Nat) o=>acc.push (o.after.foldl (fun s e=>if Region.binds .any e then s ||| 2 ^ e.on ||| acc.getD e.on 0 else s) 0)) acc).size=acc.size+l.length:=fun l=>by
   induction l with
   | nil=>intro acc;simp
   | cons o l ih=>intro acc;simp only[List.foldl_cons,ih];simp;omega
  have hs:=key ops.toList #[]
  rw[Array.getD_eq_getD_getElem?,Array.getElem?_eq_none (by rw[hs];simp;omega)] at h
  simp at h
def Down (ops:Array Oper)(S:Nat→Bool):Prop:=∀j o,S j=true→ops[j]? = some o→∀e∈o.after,Region.binds .any e=true→S e.on=true
theorem Down.ord {ops:Array Oper}{S:Nat→Bool}(hd:Down ops S){i j:Nat}(h:Ord ops i j)(hj:S j=true):S i=true:=by
 induction h with
 | edge hj' he hb hi=>rw[←hi];exact hd _ _ hj hj' _ he hb
 | step hj' he hb _ ih=>exact ih (hd _ _ hj hj' _ he hb)
theorem Down.ready {ops:Array Oper}{S:Nat→Bool}(hd:Down ops S){i j:Nat}{o:Oper}(ho:ops[j]? = some o)(hr:∀e∈o.after,Region.binds .any e=true→S e.on=true)(h:Ord ops i j):S i=true:=by
 cases h with
 | edge hj' he hb hi=>rw[ho] at hj';injection hj' with hj';subst hj';rw[←hi];exact hr _ he hb
 | step hj' he hb h'=>rw[ho] at hj';injection hj' with hj';subst hj';exact hd.ord h' (hr _ he hb)
theorem qiu:∀(l:List Bool) (j:Nat),l[j]? = some false→(l.set j true).countP (fun b=>!b)+1=l.countP (fun b=>!b)
 | [],j,h=>by simp at h
 | b::l,0,h=>by simp at h;subst h;simp
 | b::l,j+1,h=>by
  have:=qiu l j (by simpa using h)
  simp only[List.set_cons_succ,List.countP_cons]
  omega
abbrev Fo (ro:Option Nat):Fence:={ fn:=fun _=>True,depth:=none,alive:=false,round:=ro }
def StepL (P:Program)(ops:Array Oper)(N:Nat)(j:Nat)(o:Oper)(rd:List Nat)(env:Nat→T)(H:Heap)(rec:Rec):Prop:=
 ∀(env':Nat→T) (H':Heap) (w:World) (A:Sta) (μ:Nat→Nat) (a:Act),(∀t∈rd,env' t=env t)→(∀i∈rec.F,H' i=H i)→(∀p∈rec.U,H' p.1=H p.1)→EnvR w A μ H' a env'→Sim w A μ H'→a.tmps.size=N→
  ∀(ro:Option Nat) (K:Act→World→Prop) (Q:Exit→Act→World→Prop),(∀u w' A' μ',Rep w' A' μ' (H'.upd rec.U) u rec.v→Sim w' A' μ' (H'.upd rec.U)→Trans w A μ H' w' A' μ' (H'.upd rec.U)→K (a.put o.dst u) w')→wpOpIn (Fo ro) 0 P ops Q j K a w
theorem EnvR.put {w w':World}{A A':Sta}{μ μ':Nat→Nat}{H H':Heap}{a:Act}{env:Nat→T}{u:Value}{v:T}{d:Option Nat}(he:EnvR w A μ H a env)(hT:Trans w A μ H w' A' μ' H')(hr:Rep w' A' μ' H' u v)(hd:∀t,d=some t→t<a.tmps.size):EnvR w' A' μ' H' (a.put d u) (putE env d v):=by
 intro t
 cases d with
 | none=>exact (he t).trans hT
 | some d=>
  have hlt:=hd d rfl
  simp only[Act.put,putE]
  by_cases e:t=d
  ·subst e
   rw[if_pos rfl]
   have:(a.tmps.setIfInBounds t u).getD t Go.undef=u:=by simp[hlt]
   rw[this];exact hr
  ·rw[if_neg e]
   have:(a.tmps.setIfInBounds d u).getD t Go.undef=a.tmps.getD t Go.undef:=by
    simp only[Array.getD_eq_getD_getElem?]
    rw[Array.getElem?_setIfInBounds_ne (Ne.symm e)]
   rw[this];exact (he t).trans hT
theorem EnvR.trans {w w':World}{A A':Sta}{μ μ':Nat→Nat}{H H':Heap}{a:Act}{env:Nat→T}(he:EnvR w A μ H a env)(hT:Trans w A μ H w' A' μ' H'):EnvR w' A' μ' H' a env:=fun t=>(he t).trans hT
section
variable {P:Program} {ops:Array Oper} {N:Nat} {Q:Exit→Act→World→Prop} {env0:Nat→T} {H0:Heap} {w0:World} {A0:Sta} {μ0:Nat→Nat} {d0:List Deferred} {l:List (Option Nat×Rec)}
theorem qn7 {ro:Option Nat}(hl:l.length=ops.size)(hdst:∀(j:Nat) (o:Oper) (x:Option Nat×Rec),ops[j]? = some o→l[j]? = some x→x.1=o.dst∧∀t,o.dst=some t→t<N)
 (hedge:∀(j:Nat) (o:Oper),ops[j]? = some o→∀e∈o.after,Region.binds .any e=true→e.on<j)
 (hst:∀(j:Nat) (o:Oper) (x:Option Nat×Rec),ops[j]? = some o→l[j]? = some x→∃rd,StepL P ops N j o rd (envS (fun i=>decide (i<j)) 0 l env0) (qbJ (fun i=>decide (i<j)) 0 l H0) x.2∧
  ∀i y,l[i]? = some y→i≠j→((∃t,y.1=some t∧(t∈rd∨x.1=some t))∨(∃id,id∈y.2.U.map (·.1)∧(id∈x.2.F∨id∈x.2.U.map (·.1))))→(i<j→Ord ops i j)∧(j<i→Ord ops j i))
 (hfin:∀a w A μ,EnvR w A μ (qbJ (fun i=>decide (i<ops.size)) 0 l H0) a (envS (fun i=>decide (i<ops.size)) 0 l env0)→Sim w A μ (qbJ (fun i=>decide (i<ops.size)) 0 l H0)→Trans w0 A0 μ0 H0 w A μ (qbJ (fun i=>decide (i<ops.size)) 0 l H0)→a.tmps.size=N→a.defers=d0→Q .normal a w) :
 ∀(fuel:Nat) (listed:Array Bool) (a:Act) (w:World) (A:Sta) (μ:Nat→Nat),listed.size=ops.size→listed.toList.countP (fun b=>!b)≤fuel→Down ops (fun i=>listed.getD i false)→
  EnvR w A μ (qbJ (fun i=>listed.getD i false) 0 l H0) a (envS (fun i=>listed.getD i false) 0 l env0)→Sim w A μ (qbJ (fun i=>listed.getD i false) 0 l H0)→Trans w0 A0 μ0 H0 w A μ (qbJ (fun i=>listed.getD i false) 0 l H0)→a.tmps.size=N→a.defers=d0→
  wpAnyIn (Fo ro) 0 P .any ops Q fuel listed a w:=by
 have done:∀(listed:Array Bool) (a:Act) (w:World) (A:Sta) (μ:Nat→Nat),listed.size=ops.size→(∀j,j<ops.size→listed.getD j false=true)→
  EnvR w A μ (qbJ (fun i=>listed.getD i false) 0 l H0) a (envS (fun i=>listed.getD i false) 0 l env0)→Sim w A μ (qbJ (fun i=>listed.getD i false) 0 l H0)→Trans w0 A0 μ0 H0 w A μ (qbJ (fun i=>listed.getD i false) 0 l H0)→a.tmps.size=N→a.defers=d0→Q .normal a w:=by
  intro listed a w A μ hsz hall he hS hT hN hd
  have hS2:(fun i=>listed.getD i false)=fun i=>decide (i<ops.size):=by
   funext i
   by_cases h:i<ops.size
   ·rw[hall i h];simp[h]
   ·have:listed[i]? = none:=Array.getElem?_eq_none (by omega)
    simp[this,h]
  rw[hS2] at he hS hT
  exact hfin a w A μ he hS hT hN hd
 have none_ready:∀(listed:Array Bool),listed.size=ops.size→Region.ready .any ops listed=[]→∀j,j<ops.size→listed.getD j false=true:=by
  intro listed hsz hr j
  induction j using Nat.strongRecOn with
  | _ j ih=>
   intro hj
   cases hb:listed.getD j false with
   | true=>rfl
   | false=>
    exfalso
    have:j∈Region.ready .any ops listed:=by
     rw[mem_ready]
     refine⟨?_,ops[j],Array.getElem?_eq_getElem hj,fun e he hbi=>?_⟩
     ·have hlt:j<listed.size:=by omega
      simpa [hlt] using hb
     ·have hlt:=hedge j _ (Array.getElem?_eq_getElem hj) e he hbi
      exact ih _ hlt (by omega)
    rw[hr] at this;cases this
 intro fuel
 induction fuel with
 | zero=>
  intro listed a w A μ hsz hc hdn he hS hT hN hd
  have hall:∀j,j<ops.size→listed.getD j false=true:=fun j hj=>by
   have h0:listed.toList.countP (fun b=>!b)=0:=by omega
   rw[List.countP_eq_zero] at h0
   have hlt:j<listed.size:=by omega
   have:=h0 listed[j] (by simp)
   simpa [hlt] using this
  refine⟨?_,done listed a w A μ hsz hall he hS hT hN hd⟩
  apply List.eq_nil_iff_forall_not_mem.2
  intro j hj
  rw[mem_ready] at hj
  obtain⟨h1,o,ho,_⟩:=hj
  have hlt:j<ops.size:=by
   rcases Nat.lt_or_ge j ops.size with h | h
   ·exact h
   ·rw[Array.getElem?_eq_none h] at ho;cases ho
  have h2:=hall j hlt
  have hlt2:j<listed.size:=by omega
  simp[hlt2] at h1 h2
  rw[h1] at h2;cases h2
 | succ fuel ih=>
  intro listed a w A μ hsz hc hdn he hS hT hN hd
  refine⟨fun hr=>done listed a w A μ hsz (none_ready listed hsz hr) he hS hT hN hd,fun j hj=>?_⟩
  rw[mem_ready] at hj
  obtain⟨hj1,o,ho,hj2⟩:=hj
  have hlt:j<ops.size:=by
   rcases Nat.lt_or_ge j ops.size with h | h
   ·exact h
   ·rw[Array.getElem?_eq_none h] at ho;cases ho
  have hlt2:j<listed.size:=by omega
  have hjf:listed.getD j false=false:=by simpa [hlt2] using hj1
  obtain⟨x,hx⟩:∃x,l[j]? = some x:=⟨l[j],List.getElem?_eq_getElem (by omega)⟩
  obtain⟨rd,hstep,hcon⟩:=hst j o x ho hx
  obtain⟨hxd,hdN⟩:=hdst j o x ho hx
  have hwho:∀i y,l[i]? = some y→i≠j→((∃t,y.1=some t∧(t∈rd∨x.1=some t))∨(∃id,id∈y.2.U.map (·.1)∧(id∈x.2.F∨id∈x.2.U.map (·.1))))→listed.getD i false=decide (i<j):=by
   intro i y hy hne hq
   obtain⟨c1,c2⟩:=hcon i y hy hne hq
   by_cases hij:i<j
   ·rw[hdn.ready ho hj2 (c1 hij)];simp[hij]
   ·have hji:j<i:=by omega
    cases hb:listed.getD i false with
    | false=>simp[hij]
    | true=>
     have:=hdn.ord (c2 hji) hb
     rw[hjf] at this;cases this
  refine hstep _ _ w A μ a (fun t ht=>qeT l 0 _ _ (fun i y hy hyt=>?_) rfl) (fun id hid=>qc7 l 0 _ _ (fun i y hy hyt=>?_) rfl) (fun p hp=>qc7 l 0 _ _ (fun i y hy hyt=>?_) rfl) he hS hN ro _ Q fun u w' A' μ' hr hS' hT'=>?_
  ·simp only[Nat.zero_add]
   by_cases hne:i=j
   ·subst hne;rw[hjf];simp
   ·exact hwho i y hy hne (.inl ⟨t,hyt,.inl ht⟩)
  ·simp only[Nat.zero_add]
   by_cases hne:i=j
   ·subst hne;rw[hjf];simp
   ·exact hwho i y hy hne (.inr ⟨id,hyt,.inl hid⟩)
  ·simp only[Nat.zero_add]
   by_cases hne:i=j
   ·subst hne;rw[hjf];simp
   ·exact hwho i y hy hne (.inr ⟨p.1,hyt,.inr (List.mem_map.2 ⟨p,hp,rfl⟩)⟩)
  ·have hset:∀i,(listed.setIfInBounds j true).getD i false=if i=j then true else listed.getD i false:=fun i=>by
    by_cases e:i=j
    ·subst e;simp[hlt2]
    ·rw[if_neg e]
     simp only[Array.getD_eq_getD_getElem?]
     rw[Array.getElem?_setIfInBounds_ne (Ne.symm e)]
   have hE:envS (fun i=>(listed.setIfInBounds j true).getD i false) 0 l env0=putE (envS (fun i=>listed.getD i false) 0 l env0) o.dst x.2.v:=by
    funext t
    by_cases ht:x.1=some t
    ·have h1:envS (fun i=>(listed.setIfInBounds j true).getD i false) 0 l env0 t=envS (fun i=>decide (i<0+j+1)) 0 l env0 t:=qeT l 0 _ _ (fun i y hy hyt=>by
      simp only[Nat.zero_add]
      rw[hset]
      by_cases hne:i=j
      ·subst hne;simp
      ·rw[if_neg hne,hwho i y hy hne (.inl ⟨t,hyt,.inr ht⟩)]
       exact decide_eq_decide.2 (by omega)) rfl
     rw[h1,qkl l 0 env0 x hx,←hxd,ht]
     simp[putE]
    ·have h1:envS (fun i=>(listed.setIfInBounds j true).getD i false) 0 l env0 t=envS (fun i=>listed.getD i false) 0 l env0 t:=qeT l 0 _ _ (fun i y hy hyt=>by
      simp only[Nat.zero_add]
      rw[hset]
      by_cases hne:i=j
      ·subst hne
       rw[hx] at hy
       injection hy with hy
       subst hy
       exact absurd hyt ht
      ·rw[if_neg hne]) rfl
     rw[h1,←hxd]
     cases hx1:x.1 with
     | none=>rfl
     | some d=>
      have:t≠d:=fun e=>ht (by rw[hx1,e])
      simp[putE,this]
   have hH:qbJ (fun i=>(listed.setIfInBounds j true).getD i false) 0 l H0=(qbJ (fun i=>listed.getD i false) 0 l H0).upd x.2.U:=by
    funext id
    by_cases ht:id∈x.2.U.map (·.1)
    ·have h1:qbJ (fun i=>(listed.setIfInBounds j true).getD i false) 0 l H0 id=qbJ (fun i=>decide (i<0+j+1)) 0 l H0 id:=qc7 l 0 _ _ (fun i y hy hyt=>by
      simp only[Nat.zero_add]
      rw[hset]
      by_cases hne:i=j
      ·subst hne;simp
      ·rw[if_neg hne,hwho i y hy hne (.inr ⟨id,hyt,.inr ht⟩)]
       exact decide_eq_decide.2 (by omega)) rfl
     rw[h1,qiF l 0 H0 x hx]
     exact qlj ht
    ·have h1:qbJ (fun i=>(listed.setIfInBounds j true).getD i false) 0 l H0 id=qbJ (fun i=>listed.getD i false) 0 l H0 id:=qc7 l 0 _ _ (fun i y hy hyt=>by
      simp only[Nat.zero_add]
      rw[hset]
      by_cases hne:i=j
      ·subst hne
       rw[hx] at hy
       injection hy with hy
       subst hy
       exact absurd hyt ht
      ·rw[if_neg hne]) rfl
     rw[h1,qba ht]
   refine ih (listed.setIfInBounds j true) _ _ A' μ' (by simpa using hsz) ?_ ?_ ?_ ?_ ?_ ?_ ?_
   ·have:=qiu listed.toList j (by
     have:listed.toList[j]? = some (listed.getD j false):=by simp[hlt2]
     rw[this,hjf])
    rw[Array.toList_setIfInBounds]
    omega
   ·intro k ok hk hok e he' hb
    simp only[] at hk ⊢
    rw[hset] at hk ⊢
    by_cases hek:e.on=j
    ·rw[if_pos hek]
    ·rw[if_neg hek]
     by_cases hkj:k=j
     ·subst hkj
      rw[ho] at hok
      injection hok with hok
      subst hok
      exact hj2 e he' hb
     ·rw[if_neg hkj] at hk
      exact hdn k ok hk hok e he' hb
   ·rw[hE,hH]
    exact he.put hT' hr fun t ht=>by rw[hN];exact hdN t ht
   ·rw[hH];exact hS'
   ·rw[hH];exact hT.trans hT'
   ·cases o.dst<;>simpa [Act.put] using hN
   ·cases o.dst<;>exact hd
end
def Opd.tmps:Opd→List Nat
 | .tmp t=>[t]
 | _=>[]
def ooL (x:Option Opd):List Opd:=match x with | some x=>[x] | none=>[]
def IOp.opds:IOp→List Opd
 | .mv x | .box _ x | .load _ x | .un _ x | .conv _ x | .faddr _ _ x | .field _ _ x | .extract x _ | .nilck x | .len x | .slen x=>[x]
 | .pick a b c=>[a,b,c]
 | .alloc .. | .alen _=>[]
 | .build _ ps | .rows _ _ _ _ ps=>ps.map (·.2.2)
 | .store _ a b | .bin _ _ a b | .iaddr _ _ a b | .index _ _ a b | .sindex a b | .app _ _ a b | .mks _ _ _ a b | .mm _ a b=>[a,b]
 | .slice _ x lo hi | .sslice x lo hi=>x::(ooL lo++ooL hi)
 | .mkfn _ l=>l
 | .emp x | .cap x | .b2s x | .clear _ _ x=>[x]
 | .appz _ _ _ s n=>[s,n]
 | .slck x lo hi mx=>[x,lo,hi,mx]
 | .mkmap | .bad=>[]
 | .look _ _ _ m k=>[m,k]
 | .mset _ m k v=>[m,k,v]
def qiN (o:IOp):List Nat:=o.opds.flatMap Opd.tmps
theorem qfE {env env':Nat→T}{x:Opd}(h:∀t∈x.tmps,env' t=env t):x.ev env'=x.ev env:=by
 cases x with
 | tmp t=>exact h t (by simp[Opd.tmps])
 | _=>rfl
theorem qfi {env env':Nat→T}:∀(ps:List (Nat×Nat×Opd)) (cs:List T),(∀p∈ps,p.2.2.ev env'=p.2.2.ev env)→qcP env' ps cs=qcP env ps cs
 | [],_,_=>rfl
 | (off,k,x)::r,cs,h=>by
  have h1:x.ev env'=x.ev env:=h (off,k,x) (List.mem_cons_self ..)
  simp only[qcP,h1]
  split
  ·exact qfi r _ fun p hp=>h p (List.mem_cons_of_mem _ hp)
  ·rfl
theorem qhQ {env env':Nat→T}{l:List Opd}(h:∀x∈l,x.ev env'=x.ev env):l.map (·.ev env')=l.map (·.ev env):=List.map_congr_left h
theorem qqp {env env':Nat→T}{o:IOp}(h:∀t∈qiN o,env' t=env t):req env' o=req env o:=by
 have hx:∀x∈o.opds,x.ev env'=x.ev env:=fun x hx=>qfE fun t ht=>h t (List.mem_flatMap.2 ⟨x,hx,ht⟩)
 cases o with
 | mv x=>have:=hx x (by simp[IOp.opds]);simp only[req,this]
 | pick c x y=>have h1:=hx c (by simp[IOp.opds]);have h2:=hx x (by simp[IOp.opds]);have h3:=hx y (by simp[IOp.opds]);simp only[req,h1,h2,h3]
 | alloc ty zs=>rfl
 | box ty x=>have:=hx x (by simp[IOp.opds]);simp only[req,this]
 | build zs ps=>
  have:=qfi (env:=env) (env':=env') ps zs fun p hp=>hx _ (List.mem_map.2 ⟨p,hp,rfl⟩)
  simp only[req,this]
 | rows ty e n zs ps=>
  have:=qfi (env:=env) (env':=env') ps (repl n zs) fun p hp=>hx _ (List.mem_map.2 ⟨p,hp,rfl⟩)
  simp only[req,this]
 | load e x=>have:=hx x (by simp[IOp.opds]);simp only[req,this]
 | store e x y=>have h1:=hx x (by simp[IOp.opds]);have h2:=hx y (by simp[IOp.opds]);simp only[req,h1,h2]
 | bin op k x y=>have h1:=hx x (by simp[IOp.opds]);have h2:=hx y (by simp[IOp.opds]);simp only[req,h1,h2]
 | un op x=>have:=hx x (by simp[IOp.opds]);simp only[req,this]
 | conv k x=>have:=hx x (by simp[IOp.opds]);simp only[req,this]
 | faddr off k x=>have:=hx x (by simp[IOp.opds]);simp only[req,this]
 | field off k x=>have:=hx x (by simp[IOp.opds]);simp only[req,this]
 | iaddr e n x y=>have h1:=hx x (by simp[IOp.opds]);have h2:=hx y (by simp[IOp.opds]);cases n<;>simp only[req,h1,h2]
 | index e n x y=>have h1:=hx x (by simp[IOp.opds]);have h2:=hx y (by simp[IOp.opds]);simp only[req,h1,h2]
 | sindex x y=>have h1:=hx x (by simp[IOp.opds]);have h2:=hx y (by simp[IOp.opds]);simp only[req,h1,h2]
 | slice e x lo hi=>
  have h1:=hx x (by simp[IOp.opds])
  have h2:lo.map (·.ev env')=lo.map (·.ev env):=by cases lo with
   | none=>rfl
   | some y=>simp[hx y (by simp[IOp.opds,ooL])]
  have h3:hi.map (·.ev env')=hi.map (·.ev env):=by cases hi with
   | none=>rfl
   | some y=>simp[hx y (by simp[IOp.opds,ooL])]
  simp only[req,h1,h2,h3]
 | sslice x lo hi=>
  have h1:=hx x (by simp[IOp.opds])
  have h2:lo.map (·.ev env')=lo.map (·.ev env):=by cases lo with
   | none=>rfl
   | some y=>simp[hx y (by simp[IOp.opds,ooL])]
  have h3:hi.map (·.ev env')=hi.map (·.ev env):=by cases hi with
   | none=>rfl
   | some y=>simp[hx y (by simp[IOp.opds,ooL])]
  simp only[req,h1,h2,h3]
 | mkfn f l=>have:=qhQ (l:=l) fun x hxl=>hx x hxl;simp only[req,this]
 | extract x i=>have:=hx x (by simp[IOp.opds]);simp only[req,this]
 | nilck x=>have:=hx x (by simp[IOp.opds]);simp only[req,this]
 | len x=>have:=hx x (by simp[IOp.opds]);simp only[req,this]
 | slen x=>have:=hx x (by simp[IOp.opds]);simp only[req,this]
 | alen n=>rfl
 | app ty e x y=>have h1:=hx x (by simp[IOp.opds]);have h2:=hx y (by simp[IOp.opds]);simp only[req,h1,h2]
 | mks ty e zs x y=>have h1:=hx x (by simp[IOp.opds]);have h2:=hx y (by simp[IOp.opds]);simp only[req,h1,h2]
 | emp x=>have:=hx x (by simp[IOp.opds]);simp only[req,this]
 | cap x=>have:=hx x (by simp[IOp.opds]);simp only[req,this]
 | appz ty e zs x y=>have h1:=hx x (by simp[IOp.opds]);have h2:=hx y (by simp[IOp.opds]);simp only[req,h1,h2]
 | b2s x=>have:=hx x (by simp[IOp.opds]);simp only[req,this]
 | slck x lo hi mx=>have h1:=hx x (by simp[IOp.opds]);have h2:=hx lo (by simp[IOp.opds]);have h3:=hx hi (by simp[IOp.opds]);have h4:=hx mx (by simp[IOp.opds]);simp only[req,h1,h2,h3,h4]
 | mkmap=>rfl
 | bad=>rfl
 | look kk z ok x y=>have h1:=hx x (by simp[IOp.opds]);have h2:=hx y (by simp[IOp.opds]);simp only[req,h1,h2]
 | mset kk x y z=>have h1:=hx x (by simp[IOp.opds]);have h2:=hx y (by simp[IOp.opds]);have h3:=hx z (by simp[IOp.opds]);simp only[req,h1,h2,h3]
 | clear e zs x=>have:=hx x (by simp[IOp.opds]);simp only[req,this]
 | mm b x y=>have h1:=hx x (by simp[IOp.opds]);have h2:=hx y (by simp[IOp.opds]);simp only[req,h1,h2]
def qkc (env:Nat→T)(H:Heap)(fresh:Nat)(io:IOp)(v:T)(F:List Nat)(U:List (Nat×Slot)):Prop:=
 ∃e x y id tot n k b,io=.slice e x none (some y)∧x.ev env=.sl id tot e 0 n∧y.ev env=.int k 0∧H id=.live b∧b.cs.length=tot∧H fresh=.free∧v=.sl fresh 0 e 0 0∧F=[id]∧U=[(id,.dead),(fresh,.live ⟨b.ty,[]⟩)]
theorem qgb {P:Program}{o:Oper}{e:Nat}{x:Opd}{lo hi:Option Opd}(h:qdn P o=some (.slice e x lo hi)):∃t x0 lo0 hi0 el,o.op=.slice t x0 lo0 hi0 none∧P.underlying t=some (.slice el)∧lay P el=some e∧opd x0=some x∧oopd lo0=some lo∧oopd hi0=some hi:=by
 unfold qdn at h
 split at h
 case h_17 t x0 lo0 hi0 ho=>
  split at h
  ·rename_i el x' lo' hi' hu hx h1 h2
   cases hl:lay P el with
   | none=>simp[hl] at h
   | some e'=>
    simp only[hl,Option.map_some,Option.some.injEq,IOp.slice.injEq] at h
    obtain⟨rfl,rfl,rfl,rfl⟩:=h
    exact⟨t,x0,lo0,hi0,el,ho,hu,hl,hx,h1,h2⟩
  ·simp at h
  ·cases h
 all_goals
  exfalso
  repeat' split at h
  all_goals first
   | (simp at h;done)
   | (cases hh:opd _<;>simp[hh] at h;done)
   | (simp only[Option.map_eq_some_iff] at h;obtain⟨_,_,hh⟩:=h;cases hh;done)
theorem qlq {P:Program}{o:Oper}{a:Act}{w:World}{A:Sta}{μ:Nat→Nat}{H:Heap}{env:Nat→T}{io:IOp}{fresh:Nat}{v:T}{F:List Nat}{U:List (Nat×Slot)}(hc:qdn P o=some io)(he:EnvR w A μ H a env)(hS:Sim w A μ H)(h:qkc env H fresh io v F U):Does P o a w A μ H v (H.upd U):=by
 obtain⟨e,x,y,id,tot,n,k,b,rfl,hx,hy,hb,ht,hf,rfl,rfl,rfl⟩:=h
 obtain⟨t,x0,lo0,hi0,el,ho,hu,hl,h1,h2,h3⟩:=qgb hc
 have hlo:lo0=none:=by
  cases lo0 with
  | none=>rfl
  | some z=>simp only[oopd] at h2;cases hz:opd z<;>simp[hz] at h2
 subst hlo
 obtain⟨z,rfl,hz⟩:∃z,hi0=some z∧opd z=some y:=by
  cases hi0 with
  | none=>simp[oopd] at h3
  | some z=>simp only[oopd] at h3;cases hz:opd z<;>simp[hz] at h3;exact⟨z,rfl,by rw[hz,h3]⟩
 obtain⟨inf,hin,hs,ha,hpos⟩:=qci (w:=w) hl
 have hX:=qas h1 he hS.glb
 have hY:=qas hz he hS.glb
 rw[hx] at hX
 rw[hy] at hY
 have hid:id≠fresh:=fun e=>by subst e;rw[hb] at hf;cases hf
 generalize hvx:a.eval x0=vx at hX
 cases hX with
 | slS p c _ _ _ _ _ hn hst=>
  rcases hst with hd | ⟨b',hb',hl'⟩
  ·rw[hb] at hd;cases hd
  ·rw[hb] at hb';injection hb' with hb';subst hb';omega
 | sl _ _ _ _ _ c b0 cur hb0 ht0 hcur hnc hmx hcc hff=>
  rw[hb] at hb0
  injection hb0 with hb0
  subst hb0
  have hrun:(execOp a.eval o).run P w=.ok (.value (.slice (some ⟨μ id,0,none⟩) 0 c)) w:=by
   have hbd:=qdM (P:=P) (w:=w) (s:=true) (lo:=none) (hi:=some (.int k 0)) (l:=0) (h:=0) (n:=n) (c:=c) (.inl ⟨rfl,rfl⟩) (.inr ⟨k,rfl⟩) (Nat.le_refl _) (Nat.zero_le _)
   unfold execOp
   simp only[ho,hvx,hY.int_inv,Option.map_none,Option.map_some]
   simp[Instr.sliceAt,run_underlying hu,Instr.slice,hbd,sizeOf,typeInfo,hin,hs,Addr.add]
  have hown:(H id).owns=true:=by simp[hb,Slot.owns]
  have hU:∀i,H.upd [(id,.dead),(fresh,.live ⟨b.ty,[]⟩)] i=if i=fresh then .live ⟨b.ty,[]⟩ else if i=id then .dead else H i:=fun i=>by
   show Heap.set (Heap.set H id .dead) fresh _ i=_
   simp only[Heap.set]
  have hmu:∀i,i≠fresh→setMu μ fresh (μ id) i=μ i:=fun i hi=>by simp[setMu,hi]
  have hmf:setMu μ fresh (μ id) fresh=μ id:=by simp[setMu]
  have hT:Trans w A μ H w A (setMu μ fresh (μ id)) (H.upd [(id,.dead),(fresh,.live ⟨b.ty,[]⟩)]):=by
   refine⟨rfl,⟨rfl,Nat.le_refl _⟩,rfl,Nat.le_refl _,fun b' hb' hn=>⟨rfl,fun i hi=>?_⟩,fun _ _ h _=>⟨h,rfl⟩,fun _ _ h=>.inl h,fun i b' hb'=>?_,fun i es hb'=>?_,fun i hd=>?_⟩
   ·rw[hU] at hi
    by_cases e1:i=fresh
    ·subst e1;rw[hmf];exact hn id hown
    ·rw[if_neg e1] at hi
     by_cases e2:i=id
     ·rw[if_pos e2] at hi;simp[Slot.owns] at hi
     ·rw[if_neg e2] at hi;rw[hmu i e1];exact hn i hi
   ·rw[hU]
    by_cases e2:i=id
    ·left;rw[if_neg (e2▸hid),if_pos e2]
    ·have e1:i≠fresh:=fun e=>by subst e;rw[hf] at hb';cases hb'
     rw[if_neg e1,if_neg e2]
     exact .inr ⟨b',hb',.inr ⟨rfl,hmu i e1,rfl,fun cur hc=>⟨cur,hc,rfl⟩⟩⟩
   ·rw[hU]
    have e1:i≠fresh:=fun e=>by subst e;rw[hf] at hb';cases hb'
    have e2:i≠id:=fun e=>by subst e;rw[hb] at hb';cases hb'
    rw[if_neg e1,if_neg e2]
    exact .inr ⟨es,hb',hmu i e1⟩
   ·rw[hU]
    have e1:i≠fresh:=fun e=>by subst e;rw[hf] at hd;cases hd
    rw[if_neg e1]
    split
    ·rfl
    ·exact hd
  refine⟨_,_,w,setMu μ fresh (μ id),hrun,.inl rfl,?_,⟨fun i j hi hj hij=>?_,fun i b' hb'=>?_,fun i es hb'=>?_,fun i hi o' ha'=>?_,hS.sta,hS.glb⟩,hT⟩
  ·have:=Rep.sl (w:=w) (A:=A) (μ:=setMu μ fresh (μ id)) (H:=H.upd [(id,.dead),(fresh,.live ⟨b.ty,[]⟩)]) fresh 0 e 0 0 c ⟨b.ty,[]⟩ cur (by rw[hU];simp) rfl (by rw[hmf];exact hcur) (Nat.zero_le _) hmx hcc (by omega)
   rwa [hmf] at this
  ·have key:∀i,(H.upd [(id,.dead),(fresh,.live ⟨b.ty,[]⟩)] i).owns=true→i≠fresh→i≠id∧(H i).owns=true:=fun i hi e1=>by
    rw[hU,if_neg e1] at hi
    by_cases e2:i=id
    ·rw[if_pos e2] at hi;simp[Slot.owns] at hi
    ·rw[if_neg e2] at hi;exact⟨e2,hi⟩
   by_cases e1:i=fresh<;>by_cases e2:j=fresh
   ·rw[e1,e2]
   ·obtain⟨k1,k2⟩:=key j hj e2
    rw[e1,hmf,hmu j e2] at hij
    exact absurd (hS.inj id j hown k2 hij).symm k1
   ·obtain⟨k1,k2⟩:=key i hi e1
    rw[e2,hmf,hmu i e1] at hij
    exact absurd (hS.inj i id k2 hown hij) k1
   ·obtain⟨_,k2⟩:=key i hi e1
    obtain⟨_,k3⟩:=key j hj e2
    rw[hmu i e1,hmu j e2] at hij
    exact hS.inj i j k2 k3 hij
  ·rw[hU] at hb'
   by_cases e1:i=fresh
   ·subst e1
    rw[if_pos rfl] at hb'
    injection hb' with hb'
    subst hb'
    exact⟨cur,by rw[hmf];exact hcur,Nat.zero_le _,(fun c hc=>by cases hc),(fun k hk=>by cases hk)⟩
   ·rw[if_neg e1] at hb'
    by_cases e2:i=id
    ·rw[if_pos e2] at hb';cases hb'
    ·rw[if_neg e2] at hb'
     obtain⟨c0,a1,a2,a3,a4⟩:=hS.blk i b' hb'
     exact⟨c0,by rw[hmu i e1];exact a1,a2,a3,fun k hk=>(a4 k hk).trans hT⟩
  ·rw[hU] at hb'
   by_cases e1:i=fresh
   ·rw[if_pos e1] at hb';cases hb'
   ·rw[if_neg e1] at hb'
    by_cases e2:i=id
    ·rw[if_pos e2] at hb';cases hb'
    ·rw[if_neg e2] at hb'
     obtain⟨c0,cl,a1,a2,a3⟩:=hS.map i es hb'
     exact⟨c0,cl,by rw[hmu i e1];exact a1,a2,fun k hk=>⟨(a3 k hk).1.trans hT,(a3 k hk).2.trans hT⟩⟩
  ·rw[hU] at hi
   by_cases e1:i=fresh
   ·subst e1;rw[hmf] at ha';exact hS.dis id hown _ ha'
   ·rw[if_neg e1] at hi
    rw[hmu i e1] at ha'
    by_cases e2:i=id
    ·rw[if_pos e2] at hi;simp[Slot.owns] at hi
    ·rw[if_neg e2] at hi;exact hS.dis i hi _ ha'
theorem qkc.local {env env':Nat→T}{H H':Heap}{fresh:Nat}{io:IOp}{v:T}{F:List Nat}{U:List (Nat×Slot)}(h:qkc env H fresh io v F U)(ht:∀t∈qiN io,env' t=env t)(hF:∀i∈F,H' i=H i)(hU:∀p∈U,H' p.1=H p.1):qkc env' H' fresh io v F U:=by
 obtain⟨e,x,y,id,tot,n,k,b,rfl,hx,hy,hb,hl,hf,rfl,rfl,rfl⟩:=h
 have h1:x.ev env'=x.ev env:=qfE fun t h=>ht t (by simp only[qiN,IOp.opds,ooL,List.flatMap_cons,List.mem_append];exact .inl h)
 have h2:y.ev env'=y.ev env:=qfE fun t h=>ht t (by simp only[qiN,IOp.opds,ooL,List.nil_append,List.flatMap_cons,List.flatMap_nil,List.mem_append,List.append_nil];exact .inr h)
 have hfr:=hU (fresh,.live ⟨b.ty,[]⟩) (by simp)
 simp only at hfr
 exact⟨e,x,y,id,tot,n,k,b,rfl,h1.trans hx,h2.trans hy,(hF id (by simp)).trans hb,hl,hfr.trans hf,rfl,rfl,rfl⟩
def Keep0 (env:Nat→T)(H:Heap)(io:IOp)(v:T)(F:List Nat)(U:List (Nat×Slot)):Prop:=
 ∃e x y id tot n k b,io=.slice e x none (some y)∧x.ev env=.sl id tot e 0 n∧y.ev env=.int k 0∧H id=.live b∧b.cs.length=tot∧v=.sl id tot e 0 0∧F=[id]∧U=[]
def Past (env:Nat→T)(H:Heap)(io:IOp)(v:T)(F:List Nat)(U:List (Nat×Slot)):Prop:=
 ∃e x y z id tot n k k' b,∃l h:Nat,io=.slice e x (some y) (some z)∧x.ev env=.sl id tot e 0 n∧y.ev env=.int k l∧z.ev env=.int k' h∧H id=.live b∧b.cs.length=tot∧l<h∧h*esz e≤tot∧v=.sl id tot e (l*esz e) (h - l)∧F=[id]∧U=[]
def Shift (env:Nat→T)(H:Heap)(io:IOp)(v:T)(F:List Nat)(U:List (Nat×Slot)):Prop:=
 ∃ty e x y id tot off i m b,io=.app ty e x y∧x.ev env=.sl id tot e 0 i∧y.ev env=.sl id tot e off m∧H id=.live b∧b.ty=ty∧b.cs.length=tot∧0<m∧(i+m)*esz e≤tot∧off+m*esz e≤tot∧v=.sl id tot e 0 (i+m)∧F=[id]∧
  U=[(id,.live ⟨ty,splice b.cs (i*esz e) ((b.cs.drop off).take (m*esz e))⟩)]
def AppZ (env:Nat→T)(io:IOp)(v:T)(F:List Nat)(U:List (Nat×Slot)):Prop:=
 ∃ty e x y id tot e' off,io=.app ty e x y∧y.ev env=.sl id tot e' off 0∧(∃id' tot' e2 off' n,x.ev env=.sl id' tot' e2 off' n)∧v=x.ev env∧F=[]∧U=[]
def qov (env:Nat→T)(H:Heap)(fresh:Nat)(io:IOp)(v:T)(F:List Nat)(U:List (Nat×Slot)):Prop:=
 qkc env H fresh io v F U∨Keep0 env H io v F U∨Past env H io v F U∨Shift env H io v F U∨AppZ env io v F U
theorem qnJ {P:Program}{o:Oper}{a:Act}{w:World}{A:Sta}{μ:Nat→Nat}{H:Heap}{env:Nat→T}{io:IOp}{v:T}{F:List Nat}{U:List (Nat×Slot)}(hc:qdn P o=some io)(he:EnvR w A μ H a env)(hS:Sim w A μ H)(h:Keep0 env H io v F U):Does P o a w A μ H v (H.upd U):=by
 obtain⟨e,x,y,id,tot,n,k,b,rfl,hx,hy,hb,ht,rfl,rfl,rfl⟩:=h
 obtain⟨t,x0,lo0,hi0,el,ho,hu,hl,h1,h2,h3⟩:=qgb hc
 have hlo:lo0=none:=by
  cases lo0 with
  | none=>rfl
  | some z=>simp only[oopd] at h2;cases hz:opd z<;>simp[hz] at h2
 subst hlo
 obtain⟨z,rfl,hz⟩:∃z,hi0=some z∧opd z=some y:=by
  cases hi0 with
  | none=>simp[oopd] at h3
  | some z=>simp only[oopd] at h3;cases hz:opd z<;>simp[hz] at h3;exact⟨z,rfl,by rw[hz,h3]⟩
 obtain⟨inf,hin,hs,ha,hpos⟩:=qci (w:=w) hl
 have hX:=qas h1 he hS.glb
 have hY:=qas hz he hS.glb
 rw[hx] at hX
 rw[hy] at hY
 generalize hvx:a.eval x0=vx at hX
 cases hX with
 | slS p c _ _ _ _ _ hn hst=>
  rcases hst with hd | ⟨b',hb',hl'⟩
  ·rw[hb] at hd;cases hd
  ·rw[hb] at hb';injection hb' with hb';subst hb';omega
 | sl _ _ _ _ _ c b0 cur hb0 ht0 hcur hnc hmx hcc hff=>
  have hrun:(execOp a.eval o).run P w=.ok (.value (.slice (some ⟨μ id,0,none⟩) 0 c)) w:=by
   have hbd:=qdM (P:=P) (w:=w) (s:=true) (lo:=none) (hi:=some (.int k 0)) (l:=0) (h:=0) (n:=n) (c:=c) (.inl ⟨rfl,rfl⟩) (.inr ⟨k,rfl⟩) (Nat.le_refl _) (Nat.zero_le _)
   unfold execOp
   simp only[ho,hvx,hY.int_inv,Option.map_none,Option.map_some]
   simp[Instr.sliceAt,run_underlying hu,Instr.slice,hbd,sizeOf,typeInfo,hin,hs,Addr.add]
  refine Does.val hS hrun ?_
  exact Rep.sl id tot e 0 0 c b0 cur hb0 ht0 hcur (Nat.zero_le _) hmx hcc (by omega)
theorem qo4 {P:Program}{o:Oper}{a:Act}{w:World}{A:Sta}{μ:Nat→Nat}{H:Heap}{env:Nat→T}{io:IOp}{v:T}{F:List Nat}{U:List (Nat×Slot)}(hc:qdn P o=some io)(he:EnvR w A μ H a env)(hS:Sim w A μ H)(h:Past env H io v F U):Does P o a w A μ H v (H.upd U):=by
 obtain⟨e,x,y,z,id,tot,n,k,k',b,l,m,rfl,hx,hy,hz,hb,ht,hlt,hle,rfl,rfl,rfl⟩:=h
 obtain⟨t,x0,lo0,hi0,el,ho,hu,hl,h1,h2,h3⟩:=qgb hc
 obtain⟨y0,rfl,hy0⟩:∃z,lo0=some z∧opd z=some y:=by
  cases lo0 with
  | none=>simp[oopd] at h2
  | some z=>simp only[oopd] at h2;cases hz:opd z<;>simp[hz] at h2;exact⟨z,rfl,by rw[hz,h2]⟩
 obtain⟨z0,rfl,hz0⟩:∃y,hi0=some y∧opd y=some z:=by
  cases hi0 with
  | none=>simp[oopd] at h3
  | some z=>simp only[oopd] at h3;cases hz:opd z<;>simp[hz] at h3;exact⟨z,rfl,by rw[hz,h3]⟩
 obtain⟨inf,hin,hs,ha,hpos⟩:=qci (w:=w) hl
 have hX:=qas h1 he hS.glb
 have hY:=qas hy0 he hS.glb
 have hZ:=qas hz0 he hS.glb
 rw[hx] at hX
 rw[hy] at hY
 rw[hz] at hZ
 generalize hvx:a.eval x0=vx at hX
 cases hX with
 | slS p c _ _ _ _ _ hn hst=>
  rcases hst with hd | ⟨b',hb',hl'⟩
  ·rw[hb] at hd;cases hd
  ·rw[hb] at hb';injection hb' with hb';subst hb';omega
 | sl _ _ _ _ _ c b0 cur hb0 ht0 hcur hnc hmx hcc hff=>
  have hcs:tot≤cur.size:=by
   obtain⟨cur',q1,q2,_⟩:=hS.blk id b0 hb0
   rw[hcur] at q1
   injection q1 with q1
   injection q1 with q1
   subst q1
   omega
  have hmc:m≤c:=by
   rw[Nat.zero_add] at hcc
   exact Nat.le_of_mul_le_mul_right (by omega:m*esz e≤c*esz e) hpos
  have hrun:(execOp a.eval o).run P w=.ok (.value (.slice (some ⟨μ id,l*esz e,none⟩) (m - l) (c - l))) w:=by
   have hbd:=qdM (P:=P) (w:=w) (s:=true) (lo:=some (.int k l)) (hi:=some (.int k' m)) (l:=l) (h:=m) (n:=n) (c:=c) (.inr ⟨k,rfl⟩) (.inr ⟨k',rfl⟩) (by omega) hmc
   unfold execOp
   simp only[ho,hvx,hY.int_inv,hZ.int_inv,Option.map_none,Option.map_some]
   have hne:¬c=l:=by omega
   have hadd:(⟨μ id,0,none⟩:Addr).add (l*esz e)=⟨μ id,l*esz e,none⟩:=by rw[qdd];simp
   simp[Instr.sliceAt,run_underlying hu,Instr.slice,hbd,sizeOf,typeInfo,hin,hs,hne,hadd]
  refine Does.val hS hrun ?_
  have hmul:l*esz e+(c - l)*esz e=c*esz e:=by rw[←Nat.add_mul];congr 1;omega
  have hmul2:l*esz e+(m - l)*esz e=m*esz e:=by rw[←Nat.add_mul];congr 1;omega
  exact Rep.sl id tot e (l*esz e) (m - l) (c - l) b0 cur hb0 ht0 hcur (by omega) (by omega) (by omega) (by omega)
theorem qmg {P:Program}{o:Oper}{ty e:Nat}{x y:Opd}(h:qdn P o=some (.app ty e x y)):∃t x0 y0 ie,o.op=.call { callee:=.builtin .append,args:=#[x0,y0],argTypes:=#[t,t] }∧P.underlying t=some (.slice ty)∧lay P ty=some e∧P.info? ty=some ie∧ie.size=esz e∧opd x0=some x∧opd y0=some y:=by
 unfold qdn at h
 split at h
 case h_28 args argTypes ho=>
  split at h
  ·rename_i x0 y0 t t' hx1 ht1
   rw[qgr hx1,qgr ht1] at ho
   split at h
   ·rename_i el x' y' hu hx hy
    split at h
    ·rename_i e' i hl hi
     split at h
     ·rename_i htt
      subst htt
      split at h
      ·rename_i hd
       simp only[Option.some.injEq,IOp.app.injEq] at h
       obtain⟨rfl,rfl,rfl,rfl⟩:=h
       exact⟨t',x0,y0,i,ho,hu,hl,hi,hd.1,hx,hy⟩
      ·cases h
     ·split at h
      ·split at h
       ·simp at h
       ·cases h
      ·cases h
    ·cases h
   ·cases h
  ·cases h
 all_goals
  exfalso
  repeat' split at h
  all_goals first
   | (simp at h;done)
   | (cases hh:opd _<;>simp[hh] at h;done)
   | (simp only[Option.map_eq_some_iff] at h;obtain⟨_,_,hh⟩:=h;cases hh;done)
theorem qnK {P:Program}{o:Oper}{a:Act}{w:World}{A:Sta}{μ:Nat→Nat}{H:Heap}{env:Nat→T}{io:IOp}{v:T}{F:List Nat}{U:List (Nat×Slot)}(hc:qdn P o=some io)(he:EnvR w A μ H a env)(hS:Sim w A μ H)(h:Shift env H io v F U):Does P o a w A μ H v (H.upd U):=by
 obtain⟨ty,e,x,y,id,tot,off,i,m,b,rfl,hx,hy,hb,rfl,ht,hm,hle,hle2,rfl,rfl,rfl⟩:=h
 obtain⟨t,x0,y0,ie,ho,hu,hl,hie,hs,h1,h2⟩:=qmg hc
 have hX:=qas h1 he hS.glb
 have hY:=qas h2 he hS.glb
 rw[hx] at hX
 rw[hy] at hY
 have hpos:0<esz e:=by unfold esz;split<;>omega
 obtain⟨news,ad,cN,hN⟩:=qg1 hS hY hb ht hle2
 have hone:=Rep.ones_cell (hN.len.trans hN.clen.symm) hN.ones hN.rep
 generalize hvx:a.eval x0=vx at hX
 cases hX with
 | slS p c _ _ _ _ _ hn hst=>
  rcases hst with hd | ⟨b',hb',hl'⟩
  ·rw[hb] at hd;cases hd
  ·rw[hb] at hb';injection hb' with hb';subst hb';omega
 | sl _ _ _ _ _ c b0 cur hb0 ht0 hcur hnc hmx hcc hff=>
  rw[hb] at hb0
  injection hb0 with hb0
  subst hb0
  obtain⟨cur',q1,q2,q3,q4⟩:=hS.blk id b hb
  rw[hcur] at q1
  injection q1 with q1
  injection q1 with q1
  subst q1
  have hroom:i+m≤c:=by
   rw[Nat.zero_add] at hcc
   exact Nat.le_of_mul_le_mul_right (by omega:(i+m)*esz e≤c*esz e) hpos
  have hmul:(i+m)*esz e=i*esz e+m*esz e:=Nat.add_mul _ _ _
  have hlen:=hN.len
  have hr:=run_append_room (P:=P) w t o.type b.ty ie hu hie (μ id) i c cur hcur ad m cN news (by rw[hs];exact hlen) hN.cell hone hroom (by rw[hs];omega)
  rw[hs] at hr
  have hnew:=setRow_heap w (μ id) cur (cur.toList.take (i*esz e)++news++cur.toList.drop (i*esz e+news.length)).toArray b.ty _ hcur
  have hown:(H id).owns=true:=by simp[hb,Slot.owns]
  have hsz:(cur.toList.take (i*esz e)++news++cur.toList.drop (i*esz e+news.length)).toArray.size=cur.size:=by
   simp only[List.size_toArray,List.length_append,List.length_take,List.length_drop,Array.length_toList]
   omega
  have hcl:=hN.clen
  obtain⟨hT,hS'⟩:=qft (w':=w.setRow (μ id) (cur.toList.take (i*esz e)++news++cur.toList.drop (i*esz e+news.length)).toArray) (id:=id) (g:=μ id) (ty:=b.ty) (cs:=splice b.cs (i*esz e) ((b.cs.drop off).take (m*esz e))) hS rfl ⟨rfl,Nat.le_refl _⟩ rfl (by simp) (fun k hk hne=>setRow_other w _ k _ (hne hown)) hnew (.inr ⟨hown,rfl⟩)
   (.inr ⟨b,hb,.inr ⟨qaZ (by omega),rfl,rfl,fun c0 h0=>by rw[hcur] at h0;injection h0 with h0;injection h0 with h0;rw[hsz,h0]⟩⟩) (by rw[qaZ (by omega),hsz];exact q2) (qd7 q3 hN.ones) (fun k hk=>by
    rw[qaZ (by omega)] at hk
    rw[qe5 (by omega) hk]
    have hkc:k<cur.size:=by omega
    simp only[Array.getD_eq_getD_getElem?,List.getElem?_toArray]
    by_cases p1:k<i*esz e
    ·rw[if_neg (by omega),List.append_assoc,List.getElem?_append_left (by simp;omega),List.getElem?_take,if_pos p1]
     have:=q4 k hk
     simpa using this
    ·by_cases p2:k<i*esz e+((b.cs.drop off).take (m*esz e)).length
     ·rw[if_pos (by omega),List.append_assoc,List.getElem?_append_right (by simp;omega),List.getElem?_append_left (by simp;omega)]
      have e1:k - (cur.toList.take (i*esz e)).length=k - i*esz e:=by simp;omega
      rw[e1]
      have:=hN.rep (k - i*esz e) (by omega)
      simpa [List.getD_eq_getElem?_getD] using this
     ·rw[if_neg (by omega),List.getElem?_append_right (by simp;omega),List.getElem?_drop]
      have e1:i*esz e+news.length+(k - (cur.toList.take (i*esz e)++news).length)=k:=by simp;omega
      rw[e1]
      have:=q4 k hk
      simpa using this)
  generalize w.setRow (μ id) (cur.toList.take (i*esz e)++news++cur.toList.drop (i*esz e+news.length)).toArray=W at hr hT hS' hnew
  have hmu:setMu μ id (μ id)=μ:=by funext k;unfold setMu;split<;>simp_all
  rw[hmu] at hT hS'
  refine⟨.value (.slice (some ⟨μ id,0,none⟩) (i+m) c),_,W,μ,?_,.inl rfl,?_,hS',hT⟩
  ·unfold execOp
   simp only[ho] at hr ⊢
   simp[resolve,invoke,builtin,hN.val,hvx,hr]
  ·exact Rep.sl (w:=W) (A:=A) (μ:=μ) (H:=H.set id (.live ⟨b.ty,splice b.cs (i*esz e) ((b.cs.drop off).take (m*esz e))⟩)) id tot e 0 (i+m) c ⟨b.ty,splice b.cs (i*esz e) ((b.cs.drop off).take (m*esz e))⟩ _ (Heap.set_same _ _ _) (by rw[←ht];exact qaZ (by omega)) hnew hroom hmx (by rw[hsz];exact hcc) (by omega)
theorem qo3 {P:Program}{o:Oper}{a:Act}{w:World}{A:Sta}{μ:Nat→Nat}{H:Heap}{env:Nat→T}{io:IOp}{v:T}{F:List Nat}{U:List (Nat×Slot)}(hc:qdn P o=some io)(he:EnvR w A μ H a env)(hS:Sim w A μ H)(h:AppZ env io v F U):Does P o a w A μ H v (H.upd U):=by
 obtain⟨ty,e,x,y,id,tot,e',off,rfl,hy,⟨id',tot',e2,off',n,hx⟩,rfl,rfl,rfl⟩:=h
 obtain⟨t,x0,y0,ie,ho,hu,hl,hie,hs,h1,h2⟩:=qmg hc
 have hX:=qas h1 he hS.glb
 have hY:=qas h2 he hS.glb
 rw[hx] at hX
 rw[hy] at hY
 have hno:∀ {u:Value} {id tot e' off n},Rep w A μ H u (.sl id tot e' off n)→∃p c,u=.slice p n c∧n≤c:=fun h=>by
  cases h with
  | sl=>exact⟨_,_,rfl,by assumption⟩
  | slS=>exact⟨_,_,rfl,by assumption⟩
 obtain⟨p,c,hp,hc1⟩:=hno hX
 obtain⟨q,c',hq,_⟩:=hno hY
 rw[hx]
 rw[hp] at hX
 exact Does.val hS (qdS ho hu hie hp hc1 hq) hX
theorem qnL {P:Program}{o:Oper}{a:Act}{w:World}{A:Sta}{μ:Nat→Nat}{H:Heap}{env:Nat→T}{io:IOp}{fresh:Nat}{v:T}{F:List Nat}{U:List (Nat×Slot)}(hc:qdn P o=some io)(he:EnvR w A μ H a env)(hS:Sim w A μ H)(h:qov env H fresh io v F U):Does P o a w A μ H v (H.upd U):=by
 rcases h with h | h | h | h | h
 ·exact qlq hc he hS h
 ·exact qnJ hc he hS h
 ·exact qo4 hc he hS h
 ·exact qnK hc he hS h
 ·exact qo3 hc he hS h
theorem qov.local {env env':Nat→T}{H H':Heap}{fresh:Nat}{io:IOp}{v:T}{F:List Nat}{U:List (Nat×Slot)}(h:qov env H fresh io v F U)(ht:∀t∈qiN io,env' t=env t)(hF:∀i∈F,H' i=H i)(hU:∀p∈U,H' p.1=H p.1):qov env' H' fresh io v F U:=by
 have hc:∀x∈io.opds,x.ev env'=x.ev env:=fun x hx=>qfE fun t h=>ht t (List.mem_flatMap.2 ⟨x,hx,h⟩)
 rcases h with h | ⟨e,x,y,id,tot,n,k,b,rfl,hx,hy,hb,hl,rfl,rfl,rfl⟩ | ⟨e,x,y,z,id,tot,n,k,k',b,l,m,rfl,hx,hy,hz,hb,hl,h1,h2,rfl,rfl,rfl⟩ | ⟨ty,e,x,y,id,tot,off,i,m,b,rfl,hx,hy,hb,h0,hl,h1,h2,h3,rfl,rfl,rfl⟩ | ⟨ty,e,x,y,id,tot,e',off,rfl,hy,⟨id',tot',e2,off',n,hx⟩,rfl,rfl,rfl⟩
 ·exact .inl (h.local ht hF hU)
 ·have e1:=hc x (by simp[IOp.opds])
  have e2:=hc y (by simp[IOp.opds,ooL])
  exact .inr (.inl ⟨e,x,y,id,tot,n,k,b,rfl,e1.trans hx,e2.trans hy,(hF id (by simp)).trans hb,hl,rfl,rfl,rfl⟩)
 ·have e1:=hc x (by simp[IOp.opds])
  have e2:=hc y (by simp[IOp.opds,ooL])
  have e3:=hc z (by simp[IOp.opds,ooL])
  exact .inr (.inr (.inl ⟨e,x,y,z,id,tot,n,k,k',b,l,m,rfl,e1.trans hx,e2.trans hy,e3.trans hz,(hF id (by simp)).trans hb,hl,h1,h2,rfl,rfl,rfl⟩))
 ·have e1:=hc x (by simp[IOp.opds])
  have e2:=hc y (by simp[IOp.opds])
  exact .inr (.inr (.inr (.inl ⟨ty,e,x,y,id,tot,off,i,m,b,rfl,e1.trans hx,e2.trans hy,(hF id (by simp)).trans hb,h0,hl,h1,h2,h3,rfl,rfl,rfl⟩)))
 ·have e1:=hc x (by simp[IOp.opds])
  have e2':=hc y (by simp[IOp.opds])
  exact .inr (.inr (.inr (.inr ⟨ty,e,x,y,id,tot,e',off,rfl,e2'.trans hy,⟨id',tot',e2,off',n,e1.trans hx⟩,e1.symm,rfl,rfl⟩)))
def hp (C:List (Nat×Slot)):Heap:=Heap.upd (fun _=>.free) C
theorem qgC {C:List (Nat×Slot)}{i:Nat}(h:i∉C.map (·.1)):hp C i=.free:=qba h
theorem qmu {C:List (Nat×Slot)}{i:Nat}(h:hp C i≠.free):i∈C.map (·.1):=Classical.byContradiction fun hn=>h (qgC hn)
theorem qif {C:List (Nat×Slot)}{H:Heap}{i:Nat}(h:i∈C.map (·.1)):H.upd C i=hp C i:=qlj h
theorem qun {U:List (Nat×Slot)}{H:Heap}(hU:∀p∈U,p.2≠.free):Heap.over (hp U) H=H.upd U:=by
 funext i
 by_cases h:i∈U.map (·.1)
 ·have key:∀(U:List (Nat×Slot)) (H:Heap),(∀p∈U,p.2≠.free)→i∈U.map (·.1)→H.upd U i≠.free:=fun U=>by
   induction U with
   | nil=>intro H _ hm;simp at hm
   | cons p U ih=>
    intro H hu hm
    by_cases hmu:i∈U.map (·.1)
    ·exact ih _ (fun q hq=>hu q (List.mem_cons_of_mem _ hq)) hmu
    ·have e:i=p.1:=by
      simp only[List.map_cons,List.mem_cons] at hm
      exact hm.resolve_right hmu
     show Heap.upd (H.set p.1 p.2) U i≠.free
     rw[qba hmu,e,Heap.set_same]
     exact hu p (List.mem_cons_self ..)
  rw[Heap.over_some (Hc':=hp U) (H:=H) (key U (fun _=>.free) hU h),qif h]
 ·rw[Heap.over_free (qgC h),qba h]
def Slot.cl (D:Nat→Bool):Slot→Bool
 | .live b=>clL D b.cs
 | .map es=>es.all fun e=>e.1.cl D&&e.2.cl D
 | _=>true
def qde (P:Program)(f:FuncId)(args:List T)(H:Heap)(v:T)(F:List Nat)(U:List (Nat×Slot)):Prop:=
 ∃C:List (Nat×Slot),F=C.map (·.1)∧TC P f args (hp C) v ((hp C).upd U)∧(∀p∈U,p.2≠.free)∧(∀p∈C,p.2≠.free∧H p.1=hp C p.1∧(hp C p.1).cl (fun i=>decide (i∈F))=true)∧(∀p∈U,p.1∉F→H p.1=.free)∧clL (fun i=>decide (i∈F)) args=true
theorem qt8 {C:List (Nat×Slot)}(hC:∀p∈C,p.2≠.free){i:Nat}(h:i∈C.map (·.1)):hp C i≠.free:=by
 have:=qun (H:=fun _=>.free) hC
 have h2:Heap.over (hp C) (fun _=>.free) i=hp C i:=by rw[this];exact (qif h)
 intro hf
 have key:∀(U:List (Nat×Slot)) (H:Heap),(∀p∈U,p.2≠.free)→i∈U.map (·.1)→H.upd U i≠.free:=fun U=>by
  induction U with
  | nil=>intro H _ hm;simp at hm
  | cons p U ih=>
   intro H hu hm
   by_cases hmu:i∈U.map (·.1)
   ·exact ih _ (fun q hq=>hu q (List.mem_cons_of_mem _ hq)) hmu
   ·have e:i=p.1:=by
     simp only[List.map_cons,List.mem_cons] at hm
     exact hm.resolve_right hmu
    show Heap.upd (H.set p.1 p.2) U i≠.free
    rw[qba hmu,e,Heap.set_same]
    exact hu p (List.mem_cons_self ..)
 exact key C _ hC h hf
theorem qde.tc {P:Program}{f:FuncId}{args:List T}{H H':Heap}{v:T}{F:List Nat}{U:List (Nat×Slot)}(h:qde P f args H v F U)(hF:∀i∈F,H' i=H i)(hU:∀p∈U,H' p.1=H p.1):TC P f args H' v (H'.upd U):=by
 obtain⟨C,rfl,htc,hu,hC,hn,hcl⟩:=h
 have hd:∀i,(hp C i).here=decide (i∈C.map (·.1)):=fun i=>by
  by_cases h:i∈C.map (·.1)
  ·have:=qt8 (fun p hp'=>(hC p hp').1) h
   cases hs:hp C i<;>simp_all[Slot.here]
  ·rw[qgC h];simp[h,Slot.here]
 have hd2:(fun i=>(hp C i).here)=fun i=>decide (i∈C.map (·.1)):=funext hd
 have hin:∀i,hp C i≠.free→H' i=hp C i:=fun i hi=>by
  have hm:=qmu hi
  obtain⟨p,hp',rfl⟩:=List.mem_map.1 hm
  rw[hF _ hm];exact (hC p hp').2.1
 have hne:∀(U:List (Nat×Slot)) (H:Heap) (i:Nat),(∀p∈U,p.2≠.free)→i∈U.map (·.1)→H.upd U i≠.free:=fun U=>by
  induction U with
  | nil=>intro H i _ hm;simp at hm
  | cons p U ih=>
   intro H i hu hm
   by_cases hmu:i∈U.map (·.1)
   ·exact ih _ i (fun q hq=>hu q (List.mem_cons_of_mem _ hq)) hmu
   ·have e:i=p.1:=by
     simp only[List.map_cons,List.mem_cons] at hm
     exact hm.resolve_right hmu
    show Heap.upd (H.set p.1 p.2) U i≠.free
    rw[qba hmu,e,Heap.set_same]
    exact hu p (List.mem_cons_self ..)
 have hov:Heap.over ((hp C).upd U) H'=H'.upd U:=by
  funext i
  by_cases hi:i∈U.map (·.1)
  ·rw[Heap.over_some (hne U _ i hu hi)]
   exact qlj hi
  ·by_cases hc:hp C i=.free
   ·rw[Heap.over_free (by rw[qba hi];exact hc),qba hi]
   ·rw[Heap.over_some (by rw[qba hi];exact hc),qba hi,qba hi,hin i hc]
 rw[←hov]
 refine htc.frame ⟨hin,fun i hi hi2=>?_,fun i b hb=>?_,fun i es he=>?_⟩ (by rw[hd2];exact hcl)
 ·have hm:i∈U.map (·.1):=Classical.byContradiction fun hn'=>hi2 (by rw[qba hn'];exact hi)
  obtain⟨p,hp',rfl⟩:=List.mem_map.1 hm
  rw[hU p hp']
  refine hn p hp' fun hf=>?_
  exact qt8 (fun p hp'=>(hC p hp').1) hf hi
 ·rw[hd2]
  have hm:=qmu (i:=i) (C:=C) (by simp[hb])
  obtain⟨p,hp',rfl⟩:=List.mem_map.1 hm
  have:=(hC p hp').2.2
  rw[hb] at this
  exact this
 ·rw[hd2]
  have hm:=qmu (i:=i) (C:=C) (by simp[he])
  obtain⟨p,hp',rfl⟩:=List.mem_map.1 hm
  have:=(hC p hp').2.2
  rw[he] at this
  intro e hel
  have:=List.all_eq_true.1 this e hel
  simpa using this
theorem qde.pure {P:Program}{f:FuncId}{args:List T}{H:Heap}{v:T}(h:TC P f args (fun _=>.free) v (fun _=>.free))(ha:froL args=true):qde P f args H v [] []:=
 ⟨[],rfl,h,(fun p hq=>by cases hq),(fun p hq=>by cases hq),(fun p hq=>by cases hq),by simpa using ha⟩
def qt7 (ops:Array Oper)(g:Option (Nat×Bool)):Option (Option (Nat×Bool)):=
 match g with
 | none=>some none
 | some (j,want)=>match (ops[j]?).bind (·.dst) with
  | some t=>some (some (t,want))
  | none=>none
def qbP (env:Nat→T)(g:Option (Nat×Bool)):Option Bool:=
 match g with
 | none=>some true
 | some (t,want)=>match env t with
  | .bool b=>some (b==want)
  | .tup []=>some false
  | _=>none
def gTmps (g:Option (Nat×Bool)):List Nat:=match g with | some (t,_)=>[t] | none=>[]
def ICall.opds:ICall→List Opd
 | .call _ l=>l
 | .callv x l=>x::l
def qow:IAct→List Nat
 | .op o=>qiN o
 | .call c=>c.opds.flatMap Opd.tmps
def qfY (r:IRow):List Nat:=qow r.op++gTmps r.guard
def AStep (P:Program)(fresh:Nat)(env:Nat→T)(H:Heap)(v:T)(F:List Nat)(U:List (Nat×Slot)):IAct→Prop
 | .op io=>(∃q,req env io=some q∧q.run fresh H=some (v,F,U))∨qov env H fresh io v F U
 | .call (.call f args)=>qde P f (args.map (·.ev env)) H v F U
 | .call (.callv x args)=>∃f caps,x.ev env=.fn f caps∧qde P f (args.map (·.ev env)++caps) H v F U
def qrm (P:Program)(r:IRow)(fresh:Nat)(env:Nat→T)(H:Heap)(v:T)(F:List Nat)(U:List (Nat×Slot)):Prop:=
 (qbP env r.guard=some false∧v=.tup []∧U=[])∨(qbP env r.guard=some true∧AStep P fresh env H v F U r.op)
def qoT (P:Program)(o:Oper):Option IAct:=
 match qmf o with
 | some c=>some (.call c)
 | none=>match qdn P o with
  | some io=>some (.op io)
  | none=>some (.op .bad)
def dstOk (N:Nat):Option Nat→Bool
 | some t=>decide (t<N)
 | none=>true
def qfg (P:Program)(N:Nat)(ops:Array Oper)(o:Oper):Option IRow:=
 match qoT P o,qt7 ops o.guard with
 | some io,some g=>if dstOk N o.dst=true then some ⟨o.dst,io,g⟩ else none
 | _,_=>none
theorem qll {w:World}{A:Sta}{μ:Nat→Nat}{H:Heap}{a:Act}{env:Nat→T}{ops:Array Oper}{o:Oper}{g:Option (Nat×Bool)}{b:Bool}(hg:qt7 ops o.guard=some g)(he:EnvR w A μ H a env)(hw:qbP env g=some b) :
 Region.wanted o (yielded ops a.tmps)=b:=by
 unfold qt7 at hg
 unfold Region.wanted
 split at hg
 ·rename_i hgn
  injection hg with hg
  subst hg
  simp only[qbP,Option.some.injEq] at hw
  rw[hgn,←hw]
 ·rename_i j want hgs
  split at hg
  ·rename_i t ht
   injection hg with hg
   subst hg
   simp only[qbP] at hw
   rw[hgs]
   simp only[yielded,ht,Option.bind_some]
   have hr:=he t
   split at hw
   ·rename_i b' hb
    rw[hb] at hr
    injection hw with hw
    have hv:=hr.bool_inv
    have:a.tmps[t]? = some (.bool b'):=by
     rw[Array.getD_eq_getD_getElem?] at hv
     cases hx:a.tmps[t]? with
     | none=>rw[hx] at hv;simp[Go.undef] at hv
     | some x=>rw[hx] at hv;simpa using hv
    rw[this,←hw]
    simp
   ·rename_i hb
    rw[hb] at hr
    injection hw with hw
    have hv:a.tmps.getD t Go.undef=Go.undef:=by
     generalize a.tmps.getD t Go.undef=u at hr
     cases hr with
     | tup us _ hn _=>
      have:us=#[]:=Array.eq_empty_of_size_eq_zero hn
      subst this;rfl
    have:∀c,a.tmps[t]?≠some (.bool c):=fun c hc=>by
     rw[Array.getD_eq_getD_getElem?,hc] at hv
     simp[Go.undef] at hv
    rw[←hw]
    cases hx:a.tmps[t]? with
    | none=>rfl
    | some x=>cases x<;>first | rfl | (simp_all[Go.undef];done)
   ·cases hw
  ·cases hg
theorem qgH {P:Program}{o:Oper}{ρ:Operand→Value}{w w':World}{nx:Next}(h:(execOp ρ o).run P w=.ok nx w')(hn:∀d,nx≠.defer d):∀c,o.op≠.defer c:=by
 intro c hc
 unfold execOp at h
 rw[hc] at h
 simp only[Sem.run_bind] at h
 cases hr:(resolve ρ c o.type).run P w with
 | ok d w1=>
  rw[hr] at h
  simp only[Result.andThen_ok,Sem.run_pure] at h
  injection h with h1 h2
  exact hn _ h1.symm
 | halt x w1=>rw[hr] at h;simp[Result.andThen] at h
theorem Does.wp {P:Program}{o:Oper}{a:Act}{w:World}{A:Sta}{μ:Nat→Nat}{H H':Heap}{v:T}(h:Does P o a w A μ H v H'){K:Act→World→Prop}{Q:Exit→Act→World→Prop}
 (hK:∀u w' A' μ',Rep w' A' μ' H' u v→Sim w' A' μ' H'→Trans w A μ H w' A' μ' H'→K (a.put o.dst u) w') {ro:Option Nat}:o.wpIn (Fo ro) 0 P a w K Q:=by
 obtain⟨nx,u,w',μ',hr,hn,h1,h2,h3⟩:=h
 refine⟨fun _ _=>trivial,?_⟩
 rw[Oper.semAt_eq _ _ _ (qgH hr (by rcases hn with rfl | ⟨rfl,_⟩<;>intro d h<;>cases h)),hr]
 rcases hn with rfl | ⟨rfl,rfl⟩
 ·exact hK _ _ _ _ h1 h2 h3
 ·exact hK _ _ _ _ h1 h2 h3
theorem TC.wp {P:Program}{o:Oper}{a:Act}{w:World}{A:Sta}{μ:Nat→Nat}{H H':Heap}{v:T}{f:FuncId}{args:List T}{vs:Array Value}(h:TC P f args H v H')(hS:Sim w A μ H)(hR:Reps w A μ H vs args)
 (he:(execOp a.eval o).run P w=(callFunc f vs).run P w) {K:Act→World→Prop} {Q:Exit→Act→World→Prop}
 (hK:∀u w' A' μ',Rep w' A' μ' H' u v→Sim w' A' μ' H'→Trans w A μ H w' A' μ' H'→K (a.put o.dst u) w') {ro:Option Nat}:o.wpIn (Fo ro) 0 P a w K Q:=by
 refine⟨fun _ _=>trivial,?_⟩
 have he':=he.trans (h.1 vs w)
 rw[Oper.semAt_eq _ _ _ (qgH he' (by intro d h;cases h)),he',Oper.uponIn_enter]
 refine⟨fun h=>by simp at h,?_⟩
 show CallsIn Fence.wide 0 P f vs w _
 rw[callsIn_wide]
 refine (h.2 w A μ vs hS hR).mono ?_
 rintro e w' ⟨u,A',μ',rfl,h1,h2,h3⟩
 exact hK _ _ _ _ h1 h2 h3
theorem Reps.append {w:World}{A:Sta}{μ:Nat→Nat}{H:Heap}{vs us:Array Value}{xs ys:List T}(h1:Reps w A μ H vs xs)(h2:Reps w A μ H us ys):Reps w A μ H (vs++us) (xs++ys):=by
 refine⟨by simp[h1.1,h2.1],fun i hi=>?_⟩
 simp only[Array.getD_eq_getD_getElem?,List.getD_eq_getElem?_getD]
 by_cases h:i<xs.length
 ·rw[Array.getElem?_append_left (by rw[h1.1];exact h),List.getElem?_append_left h]
  simpa [List.getD_eq_getElem?_getD] using h1.2 i h
 ·simp only[List.length_append] at hi
  rw[Array.getElem?_append_right (by rw[h1.1];omega),List.getElem?_append_right (by omega),h1.1]
  simpa [List.getD_eq_getElem?_getD] using h2.2 (i - xs.length) (by omega)
theorem mapA {a:Act}(xs:Array Operand):(xs.toList.map a.eval).toArray=xs.map a.eval:=by
 apply Array.ext'
 rw[Array.toList_map]
theorem qnu {P:Program}{N j fresh:Nat}{ops:Array Oper}{o:Oper}{r:IRow}{env:Nat→T}{H:Heap}{v:T}{F:List Nat}{U:List (Nat×Slot)}(ho:ops[j]? = some o)(hc:qfg P N ops o=some r)(h:qrm P r fresh env H v F U) :
 StepL P ops N j o (qfY r) env H ⟨v,F,U⟩:=by
 unfold qfg at hc
 split at hc
 ·rename_i io g hio hg
  split at hc
  ·injection hc with hc
   subst hc
   intro env' H' w A μ a hrd hF hU he hS hN ro K Q hK
   have hgd:qbP env' g=qbP env g:=by
    unfold qbP
    cases g with
    | none=>rfl
    | some p=>
     obtain⟨t,want⟩:=p
     have:=hrd t (by simp[qfY,gTmps])
     simp only[this]
   have hop:∀t∈qow io,env' t=env t:=fun t ht=>hrd t (by simp only[qfY,List.mem_append];exact .inl ht)
   unfold wpOpIn
   simp only[ho]
   rcases h with⟨hw,rfl,rfl⟩ | ⟨hw,h⟩
   ·simp only[] at hw
    rw[←hgd] at hw
    rw[qll hg he hw]
    simp only[Bool.false_eq_true,if_false]
    refine⟨fun _ _=>trivial,?_⟩
    exact hK Go.undef w A μ (.tup #[] [] rfl fun i hi=>by cases hi) hS (.refl _ _ _ _)
   ·simp only[] at hw
    rw[←hgd] at hw
    rw[qll hg he hw]
    simp only[if_true]
    unfold qoT at hio
    split at hio
    ·rename_i c hcc
     injection hio with hio
     subst hio
     have hx:∀x∈c.opds,x.ev env'=x.ev env:=fun x hx=>qfE fun t ht=>hop t (List.mem_flatMap.2 ⟨x,hx,ht⟩)
     unfold qmf at hcc
     split at hcc
     ·rename_i cl hcl
      split at hcc
      ·rename_i f hcv
       cases hl:opds cl.args.toList with
       | none=>simp[hl] at hcc
       | some l=>
        simp only[hl,Option.map_some,Option.some.injEq] at hcc
        subst hcc
        have htc:=qde.tc h hF hU
        rw[←qhQ (env':=env') (l:=l) (fun x hxl=>hx x hxl)] at htc
        refine htc.wp hS (qg2 hl he hS.glb) ?_ hK
        unfold execOp
        simp only[hcl,resolve,hcv,Act.eval,Deferred.ofValue,Sem.run_bind,Sem.run_pure,Result.andThen_ok,invoke]
        rw[mapA]
        simp
      ·rename_i x hnf hcv
       split at hcc
       ·rename_i y l hy hl
        injection hcc with hcc
        subst hcc
        obtain⟨f,caps,hf,hcs⟩:=h
        have htc:=qde.tc hcs hF hU
        rw[←qhQ (env':=env') (l:=l) (fun x hxl=>hx x (List.mem_cons_of_mem _ hxl))] at htc
        have hrf:=qas hy he hS.glb
        rw[hx y (List.mem_cons_self ..),hf] at hrf
        generalize hvx:a.eval x=vx at hrf
        cases hrf with
        | fn _ us _ hn hR=>
         refine htc.wp (vs:=(cl.args.toList.map a.eval).toArray++us) hS ((qg2 hl he hS.glb).append ⟨hn,hR⟩) ?_ hK
         unfold execOp
         simp only[hcl,resolve,hcv,hvx,Deferred.ofValue,Sem.run_bind,Sem.run_pure,Result.andThen_ok,invoke]
         rw[mapA]
         simp
       ·cases hcc
      ·cases hcc
     ·cases hcc
    ·cases hco:qdn P o with
     | none=>
      simp only[hco,Option.some.injEq] at hio
      subst hio
      exfalso
      rcases h with⟨q,hq,_⟩ | ⟨_,_,_,_,_,_,_,_,hh,_⟩ | ⟨_,_,_,_,_,_,_,_,hh,_⟩ | ⟨_,_,_,_,_,_,_,_,_,_,_,_,hh,_⟩ | ⟨_,_,_,_,_,_,_,_,_,_,hh,_⟩ | ⟨_,_,_,_,_,_,_,_,hh,_⟩
      ·simp[req] at hq
      all_goals cases hh
     | some iop=>
      simp only[hco,Option.some.injEq] at hio
      subst hio
      rcases h with⟨q,hq,hv⟩ | h
      ·have hq':req env' iop=some q:=by rw[qqp hop];exact hq
       have hv':=Req.run_local hv hF hU
       exact (qso hco he hS hq' hv').wp hK
      ·exact (qnL hco he hS (h.local hop hF hU)).wp hK
  ·cases hc
 ·cases hc
inductive ICode where
 | skip
 | reg (rows:List IRow) (bm:List Nat) (draw:Bool)
 | seq (a b:ICode)
 | cond (c:Opd) (a b:ICode)
 | block (id:Nat) (c:ICode)
 | loop (c:ICode)
 | exit (id:Nat)
 | ret
def qfB (P:Program)(N:Nat)(ops:Array Oper):List Oper→Option (List IRow)
 | []=>some []
 | o::l=>match qfg P N ops o,qfB P N ops l with
  | some r,some rs=>some (r::rs)
  | _,_=>none
def edgesB (ops:Array Oper):Bool:=ops.toList.zipIdx.all fun (o,j)=>o.after.toList.all fun e=>!Region.binds .any e || decide (e.on<j)
def hits (x y:IRow):Bool:=match x.dst with
 | some t=>(qfY y).contains t || y.dst==some t
 | none=>false
def qrf (bm:List Nat):Nat→List IRow→List IRow→Bool
 | _,_,[]=>true
 | j,seen,r::rs=>(seen.zipIdx.all fun (s,i)=>!(hits s r || hits r s) || (bm.getD j 0).testBit i)&&qrf bm (j+1) (seen++[r]) rs
def qcm (P:Program)(N:Nat)(ops:Array Oper)(draw:Bool):Option ICode:=
 match qfB P N ops ops.toList with
 | some rows=>if draw then (if edgesB ops&&qrf (Region.before ops).toList 0 [] rows then some (.reg rows (Region.before ops).toList true) else none) else some (.reg rows [] false)
 | none=>none
def qaQ (P:Program)(N:Nat):Code→Option ICode
 | .skip=>some .skip
 | .region _ ops draw=>qcm P N ops draw
 | .seq a b=>match qaQ P N a,qaQ P N b with
  | some a,some b=>some (.seq a b)
  | _,_=>none
 | .cond c a b=>match opd c,qaQ P N a,qaQ P N b with
  | some c,some a,some b=>some (.cond c a b)
  | _,_,_=>none
 | .block id c=>match qaQ P N c with
  | some c=>some (.block id c)
  | none=>none
 | .loop c=>match qaQ P N c with
  | some c=>some (.loop c)
  | none=>none
 | .exit id=>some (.exit id)
 | .ret=>some .ret
 | _=>none
abbrev LogE:=Nat×List Nat×List Nat
def qbw (j:Nat)(F:List Nat)(U:List (Nat×Slot))(log:List LogE):List LogE:=
 match F,U with
 | [],[]=>log
 | _,_=>(j,F,U.map (·.1))::log
def chkP (bm:List Nat)(a b:LogE):Prop:=(bm.getD a.1 0).testBit b.1=true∨((∀x∈a.2.2,x∉b.2.1∧x∉b.2.2)∧∀x∈b.2.2,x∉a.2.1)
def RunR (P:Program)(base:Nat):Nat→List IRow→(Nat→T)→Heap→List LogE→((Nat→T)→Heap→List LogE→Prop)→Prop
 | _,[],env,H,log,K=>K env H log
 | j,r::rs,env,H,log,K=>∃v F U,qrm P r (base+j) env H v F U∧RunR P base (j+1) rs (putE env r.dst v) (H.upd U) (qbw j F U log) K
def qnW:Nat→List (Option Nat×Rec)→List LogE→List LogE
 | _,[],log=>log
 | j,x::l,log=>qnW (j+1) l (qbw j x.2.F x.2.U log)
theorem qen:∀(l:List (Option Nat×Rec)) (k b:Nat) (env:Nat→T),b≤k→envS (fun i=>decide (i<b)) k l env=env
 | [],_,_,_,_=>rfl
 | x::l,k,b,env,h=>by
  simp only[envS]
  rw[if_neg (by simp;omega)]
  exact qen l _ _ _ (by omega)
theorem qb8:∀(l:List (Option Nat×Rec)) (k b:Nat) (H:Heap),b≤k→qbJ (fun i=>decide (i<b)) k l H=H
 | [],_,_,_,_=>rfl
 | x::l,k,b,H,h=>by
  simp only[qbJ]
  rw[if_neg (by simp;omega)]
  exact qb8 l _ _ _ (by omega)
theorem qfZ {P:Program}{base:Nat}{K:(Nat→T)→Heap→List LogE→Prop}:∀(rows:List IRow) (j:Nat) (env:Nat→T) (H:Heap) (log:List LogE),RunR P base j rows env H log K→
 ∃l:List (Option Nat×Rec),K (envS (fun i=>decide (i<j+rows.length)) j l env) (qbJ (fun i=>decide (i<j+rows.length)) j l H) (qnW j l log)∧l.length=rows.length∧
  ∀(i:Nat) (r:IRow) (x:Option Nat×Rec),rows[i]? = some r→l[i]? = some x→x.1=r.dst∧qrm P r (base+(j+i)) (envS (fun q=>decide (q<j+i)) j l env) (qbJ (fun q=>decide (q<j+i)) j l H) x.2.v x.2.F x.2.U
 | [],j,env,H,log,h=>⟨[],h,rfl,fun i r x hr=>by simp at hr⟩
 | r::rs,j,env,H,log,h=>by
  obtain⟨v,F,U,hs,hrest⟩:=h
  obtain⟨l,h1,h2,h3⟩:=qfZ rs (j+1) _ _ _ hrest
  refine⟨(r.dst,⟨v,F,U⟩)::l,?_,by simp[h2],fun i r' x hr hx=>?_⟩
  ·simp only[envS,qbJ,qnW,List.length_cons]
   rw[if_pos (decide_eq_true (by omega)),if_pos (decide_eq_true (by omega))]
   have e:(fun i=>decide (i<j+(rs.length+1)))=fun i=>decide (i<j+1+rs.length):=funext fun i=>decide_eq_decide.2 (by omega)
   rw[e]
   exact h1
  ·cases i with
   | zero=>
    simp only[List.getElem?_cons_zero,Option.some.injEq] at hr hx
    subst hr;subst hx
    refine⟨rfl,?_⟩
    rw[Nat.add_zero,qen _ _ _ _ (Nat.le_refl _),qb8 _ _ _ _ (Nat.le_refl _)]
    exact hs
   | succ i=>
    obtain⟨a1,a2⟩:=h3 i r' x (by simpa using hr) (by simpa using hx)
    refine⟨a1,?_⟩
    simp only[envS,qbJ]
    rw[if_pos (decide_eq_true (by omega)),if_pos (decide_eq_true (by omega))]
    have e:(fun q=>decide (q<j+(i+1)))=fun q=>decide (q<j+1+i):=funext fun q=>decide_eq_decide.2 (by omega)
    rw[e,show j+(i+1)=j+1+i by omega]
    exact a2
def qqZ (x:Option Nat×Rec):Prop:=x.2.F≠[]∨x.2.U≠[]
theorem qha {j:Nat}{F:List Nat}{U:List (Nat×Slot)}{log:List LogE}(h:F≠[]∨U≠[]):qbw j F U log=(j,F,U.map (·.1))::log:=by
 unfold qbw
 split
 ·simp at h
 ·rfl
theorem qhP {R:LogE→LogE→Prop}:∀(l:List (Option Nat×Rec)) (k:Nat) (log:List LogE),(qnW k l log).Pairwise R→
 log.Pairwise R∧(∀(i:Nat) (x:Option Nat×Rec),l[i]? = some x→qqZ x→∀e∈log,R (k+i,x.2.F,x.2.U.map (·.1)) e)∧
 ∀(i j:Nat) (x y:Option Nat×Rec),i<j→l[i]? = some x→l[j]? = some y→qqZ x→qqZ y→R (k+j,y.2.F,y.2.U.map (·.1)) (k+i,x.2.F,x.2.U.map (·.1))
 | [],k,log,h=>⟨h,fun i x hx=>by simp at hx,fun i j x y _ hx=>by simp at hx⟩
 | z::l,k,log,h=>by
  obtain⟨h1,h2,h3⟩:=qhP l (k+1) _ h
  have hsub:∀e∈log,e∈qbw k z.2.F z.2.U log:=fun e he=>by
   unfold qbw
   split
   ·exact he
   ·exact List.mem_cons_of_mem _ he
  refine⟨?_,fun i x hx hs e he=>?_,fun i j x y hij hx hy hsx hsy=>?_⟩
  ·unfold qbw at h1
   split at h1
   ·exact h1
   ·exact (List.pairwise_cons.1 h1).2
  ·cases i with
   | zero=>
    simp only[List.getElem?_cons_zero,Option.some.injEq] at hx
    subst hx
    rw[qha hs] at h1
    exact (List.pairwise_cons.1 h1).1 e he
   | succ i=>
    have:=h2 i x (by simpa using hx) hs e (hsub e he)
    rwa [show k+1+i=k+(i+1) by omega] at this
  ·cases j with
   | zero=>omega
   | succ j=>
    cases i with
    | zero=>
     simp only[List.getElem?_cons_zero,Option.some.injEq] at hx
     subst hx
     have:=h2 j y (by simpa using hy) hsy (k,z.2.F,z.2.U.map (·.1)) (by rw[qha hsx];exact List.mem_cons_self ..)
     rwa [show k+1+j=k+(j+1) by omega] at this
    | succ i=>
     have:=h3 i j x y (by omega) (by simpa using hx) (by simpa using hy) hsx hsy
     rwa [show k+1+j=k+(j+1) by omega,show k+1+i=k+(i+1) by omega] at this
theorem qej {P:Program}{N:Nat}{ops:Array Oper}:∀ {l:List Oper} {rows:List IRow},qfB P N ops l=some rows→rows.length=l.length∧∀(i:Nat) (o:Oper),l[i]? = some o→∃r,rows[i]? = some r∧qfg P N ops o=some r
 | [],rows,h=>by simp only[qfB,Option.some.injEq] at h;subst h;exact⟨rfl,fun i o ho=>by simp at ho⟩
 | o::l,rows,h=>by
  unfold qfB at h
  split at h
  ·rename_i r rs h1 h2
   injection h with h
   subst h
   obtain⟨i1,i2⟩:=qej h2
   refine⟨by simp[i1],fun i o' ho=>?_⟩
   cases i with
   | zero=>
    simp only[List.getElem?_cons_zero,Option.some.injEq] at ho
    subst ho
    exact⟨r,rfl,h1⟩
   | succ i=>simpa using i2 i o' (by simpa using ho)
  ·cases h
theorem qhn {P:Program}{N:Nat}{ops:Array Oper}{o:Oper}{r:IRow}(h:qfg P N ops o=some r):r.dst=o.dst∧∀t,o.dst=some t→t<N:=by
 unfold qfg at h
 split at h
 ·split at h
  ·rename_i hd
   injection h with h
   subst h
   refine⟨rfl,fun t ht=>?_⟩
   rw[ht] at hd
   simpa [dstOk] using hd
  ·cases h
 ·cases h
theorem qgo {bm:List Nat}:∀(rs seen:List IRow),qrf bm seen.length seen rs=true→∀(i j:Nat) (x y:IRow),i<j→(seen++rs)[i]? = some x→(seen++rs)[j]? = some y→seen.length≤j→(hits x y=true∨hits y x=true)→(bm.getD j 0).testBit i=true
 | [],seen,_,i,j,x,y,hij,hx,hy,hj,_=>by simp at hy;rw[List.getElem?_eq_none hj] at hy;cases hy
 | r::rs,seen,h,i,j,x,y,hij,hx,hy,hj,hh=>by
  simp only[qrf,Bool.and_eq_true] at h
  by_cases hje:j=seen.length
  ·subst hje
   have hy':y=r:=by simpa using hy.symm
   subst hy'
   rw[List.getElem?_append_left hij] at hx
   have:=List.all_eq_true.1 h.1 (x,i) (by
    rw[List.mem_zipIdx_iff_getElem?];simpa using hx)
   simp only[Bool.or_eq_true,Bool.not_eq_true',Bool.or_eq_false_iff] at this
   rcases this with h1 | h1
   ·rcases hh with hh | hh
    ·rw[h1.1] at hh;cases hh
    ·rw[h1.2] at hh;cases hh
   ·exact h1
  ·have h2:qrf bm (seen++[r]).length (seen++[r]) rs=true:=by simpa using h.2
   have e:seen++r::rs=(seen++[r])++rs:=by simp
   rw[e] at hx hy
   exact qgo rs (seen++[r]) h2 i j x y hij hx hy (by simp;omega) hh
section
variable {P:Program} {N base:Nat} {ops:Array Oper} {id:Nat} {rows:List IRow} {bm:List Nat} {env:Nat→T} {H:Heap} {w:World} {A:Sta} {μ:Nat→Nat} {a:Act} {Q:Exit→Act→World→Prop}
theorem qst {ro:Option Nat}(hm:P.follows .mixedOrders=true)(hc:qcm P N ops true=some (.reg rows bm true)){K:(Nat→T)→Heap→Prop}(hrun:RunR P base 0 rows env H [] fun env' H' log=>log.Pairwise (chkP bm)∧K env' H')
 (he:EnvR w A μ H a env) (hS:Sim w A μ H) (hN:a.tmps.size=N)
 (hQ:∀env' H' a' w' A' μ',K env' H'→EnvR w' A' μ' H' a' env'→Sim w' A' μ' H'→Trans w A μ H w' A' μ' H'→a'.tmps.size=N→a'.defers=a.defers→Q .normal a' w'):(Code.region id ops true).wpIn (Fo ro) 0 P Q a w:=by
 unfold qcm at hc
 split at hc
 ·rename_i rows' hrows
  simp only[if_true] at hc
  split at hc
  ·rename_i hst
   simp only[Bool.and_eq_true] at hst
   simp only[Option.some.injEq,ICode.reg.injEq,and_true] at hc
   obtain⟨rfl,rfl⟩:=hc
   obtain⟨rl,rget⟩:=qej hrows
   simp only[Array.length_toList] at rl
   obtain⟨l,⟨hpw,hk⟩,hl,hstep⟩:=qfZ rows' 0 env H [] hrun
   simp only[Nat.zero_add] at hk hstep
   obtain⟨_,_,hpairs⟩:=qhP l 0 [] hpw
   simp only[Nat.zero_add] at hpairs
   have hlt:∀ {j:Nat} {o:Oper},ops[j]? = some o→j<ops.size:=fun {j o} h=>by
    rcases Nat.lt_or_ge j ops.size with h' | h'
    ·exact h'
    ·rw[Array.getElem?_eq_none h'] at h;cases h
   have hrow:∀ {j:Nat} {o:Oper},ops[j]? = some o→∃r,rows'[j]? = some r∧qfg P N ops o=some r:=fun {j o} h=>rget j o (by simpa using h)
   have hwd:Trans w A μ H { w with drawn:=w.drawn+1 } A μ H:=⟨rfl,⟨rfl,Nat.le_succ _⟩,rfl,Nat.le_refl _,fun _ _ h=>⟨rfl,h⟩,fun _ _ h _=>⟨h,rfl⟩,fun _ _ h=>.inl h,fun i b h=>.inr ⟨b,h,.inr ⟨rfl,rfl,rfl,fun cur hc=>⟨cur,hc,rfl⟩⟩⟩,fun i es h=>.inr ⟨es,h,rfl⟩,fun _ h=>h⟩
   have hSd:Sim { w with drawn:=w.drawn+1 } A μ H:=⟨hS.inj,fun i b hb=>by
    obtain⟨cur,h1,h2,h3,h4⟩:=hS.blk i b hb
    exact⟨cur,h1,h2,h3,fun k hk=>(h4 k hk).trans hwd⟩,fun i es hb=>by
    obtain⟨ents,cl,h1,h2,h3⟩:=hS.map i es hb
    exact⟨ents,cl,h1,h2,fun k hk=>⟨(h3 k hk).1.trans hwd,(h3 k hk).2.trans hwd⟩⟩,hS.dis,hS.sta,hS.glb.trans hwd⟩
   have hzero:∀i,(Array.replicate ops.size false).getD i false=decide (i<0):=fun i=>by
    by_cases h:i<ops.size<;>simp[h]
   refine wpIn_region_any hm (qn7 (P:=P) (N:=N) (env0:=env) (H0:=H) (w0:=w) (A0:=A) (μ0:=μ) (d0:=a.defers) (l:=l) (by rw[hl,rl]) (fun j o x ho hx=>?_) (fun j o ho e he hb=>?_) (fun j o x ho hx=>?_) (fun a' w' A' μ' h1 h2 h3 h4 h5=>?_) ops.size _ a _ A μ (by simp) ?_ ?_ ?_ ?_ ?_ hN rfl)
   ·obtain⟨r,hr,hcr⟩:=hrow ho
    obtain⟨d1,d2⟩:=qhn hcr
    exact⟨(hstep j r x hr hx).1.trans d1,d2⟩
   ·have:=List.all_eq_true.1 hst.1 (o,j) (by rw[List.mem_zipIdx_iff_getElem?];simpa using ho)
    have:=List.all_eq_true.1 this e (by simpa using he)
    simpa [hb] using this
   ·obtain⟨r,hr,hcr⟩:=hrow ho
    obtain⟨s1,s2⟩:=hstep j r x hr hx
    refine⟨qfY r,qnu ho hcr s2,fun i y hy hne hq=>?_⟩
    have hil:i<ops.size:=by
     rw[←rl,←hl]
     rcases Nat.lt_or_ge i l.length with h' | h'
     ·exact h'
     ·rw[List.getElem?_eq_none h'] at hy;cases hy
    obtain⟨ri,hri,hcri⟩:=hrow (Array.getElem?_eq_getElem hil)
    obtain⟨t1,t2⟩:=hstep i ri y hri hy
    have hbit:∀p q,((Region.before ops).toList.getD q 0).testBit p=true→Ord ops p q:=fun p q h=>qnE (by simpa [List.getD_eq_getElem?_getD] using h)
    rcases hq with⟨t,hyt,ht⟩ | ⟨iid,hyi,hxi⟩
    ·have hh:hits ri r=true:=by
      unfold hits
      rw[←t1,hyt]
      simp only[Bool.or_eq_true,List.contains_iff_mem,beq_iff_eq]
      rcases ht with ht | ht
      ·exact .inl ht
      ·right;rw[←s1];exact ht
     exact⟨fun hij=>hbit _ _ (qgo rows' [] hst.2 i j ri r hij (by simpa using hri) (by simpa using hr) (Nat.zero_le _) (.inl hh)),
      fun hji=>hbit _ _ (qgo rows' [] hst.2 j i r ri hji (by simpa using hr) (by simpa using hri) (Nat.zero_le _) (.inr hh))⟩
    ·have sy:qqZ y:=.inr fun h=>by rw[h] at hyi;simp at hyi
     have sx:qqZ x:=by
      rcases hxi with h | h
      ·exact .inl fun h'=>by rw[h'] at h;cases h
      ·exact .inr fun h'=>by rw[h'] at h;simp at h
     refine⟨fun hij=>?_,fun hji=>?_⟩
     ·rcases hpairs i j y x hij hy hx sy sx with h | ⟨h1,h2⟩
      ·exact hbit _ _ h
      ·exfalso
       rcases hxi with h | h
       ·exact h2 iid hyi h
       ·exact (h1 iid h).2 hyi
     ·rcases hpairs j i x y hji hx hy sx sy with h | ⟨h1,h2⟩
      ·exact hbit _ _ h
      ·exfalso
       rcases hxi with h | h
       ·exact (h1 iid hyi).1 h
       ·exact (h1 iid hyi).2 h
   ·rw[←rl] at h1 h2 h3
    exact hQ _ _ a' w' A' μ' hk h1 h2 h3 h4 h5
   ·refine Nat.le_trans (List.countP_le_length ..) ?_
    simp
   ·intro j o hj
    simp only[hzero] at hj
    simp at hj
   ·simp only[hzero]
    rw[qen _ _ _ _ (Nat.le_refl _),qb8 _ _ _ _ (Nat.le_refl _)]
    exact he.trans hwd
   ·simp only[hzero]
    rw[qb8 _ _ _ _ (Nat.le_refl _)]
    exact hSd
   ·simp only[hzero]
    rw[qb8 _ _ _ _ (Nat.le_refl _)]
    exact hwd
  ·cases hc
 ·cases hc
end
section
variable {P:Program} {N base:Nat} {ops:Array Oper} {id:Nat} {rows:List IRow} {bm:List Nat} {env:Nat→T} {H:Heap} {w:World} {A:Sta} {μ:Nat→Nat} {a:Act} {Q:Exit→Act→World→Prop}
theorem qsu {ro:Option Nat}(hc:qcm P N ops false=some (.reg rows [] false)){K:(Nat→T)→Heap→Prop}(hrun:RunR P base 0 rows env H [] fun env' H' log=>K env' H')
 (he:EnvR w A μ H a env) (hS:Sim w A μ H) (hN:a.tmps.size=N)
 (hQ:∀env' H' a' w' A' μ',K env' H'→EnvR w' A' μ' H' a' env'→Sim w' A' μ' H'→Trans w A μ H w' A' μ' H'→a'.tmps.size=N→a'.defers=a.defers→Q .normal a' w'):(Code.region id ops false).wpIn (Fo ro) 0 P Q a w:=by
 unfold qcm at hc
 split at hc
 ·rename_i rows' hrows
  simp only[Bool.false_eq_true,if_false,Option.some.injEq,ICode.reg.injEq,and_true] at hc
  subst hc
  obtain⟨rl,rget⟩:=qej hrows
  simp only[Array.length_toList] at rl
  obtain⟨l,hk,hl,hstep⟩:=qfZ rows' 0 env H [] hrun
  simp only[Nat.zero_add] at hk hstep
  have key:∀(m j:Nat) (a':Act) (w':World) (A':Sta) (μ':Nat→Nat),j+m=ops.size→EnvR w' A' μ' (qbJ (fun q=>decide (q<j)) 0 l H) a' (envS (fun q=>decide (q<j)) 0 l env)→Sim w' A' μ' (qbJ (fun q=>decide (q<j)) 0 l H)→
   Trans w A μ H w' A' μ' (qbJ (fun q=>decide (q<j)) 0 l H)→a'.tmps.size=N→a'.defers=a.defers→wpOpsIn (Fo ro) 0 P ops Q (List.range' j m) a' w':=by
   intro m
   induction m with
   | zero=>
    intro j a' w' A' μ' hj h1 h2 h3 h4 h5
    have:j=rows'.length:=by omega
    subst this
    exact hQ _ _ a' w' A' μ' hk h1 h2 h3 h4 h5
   | succ m ih=>
    intro j a' w' A' μ' hj h1 h2 h3 h4 h5
    have hjl:j<ops.size:=by omega
    obtain⟨r,hr,hcr⟩:=rget j ops[j] (by simp[hjl])
    have hx:l[j]? = some l[j]:=List.getElem?_eq_getElem (by omega)
    obtain⟨s1,s2⟩:=hstep j r _ hr hx
    obtain⟨d1,d2⟩:=qhn hcr
    have hso:ops[j]? = some ops[j]:=Array.getElem?_eq_getElem hjl
    rw[List.range'_succ,wpOpsIn_cons]
    refine qnu hso hcr s2 _ _ w' A' μ' a' (fun _ _=>rfl) (fun _ _=>rfl) (fun _ _=>rfl) h1 h2 h4 ro _ Q fun u w'' A'' μ'' g1 g2 g3=>?_
    have eE:envS (fun q=>decide (q<j+1)) 0 l env=putE (envS (fun q=>decide (q<j)) 0 l env) ops[j].dst (l[j]).2.v:=by
     have:=qkl l 0 env _ hx
     simp only[Nat.zero_add] at this
     rw[this,s1,d1]
    have eH:qbJ (fun q=>decide (q<j+1)) 0 l H=(qbJ (fun q=>decide (q<j)) 0 l H).upd (l[j]).2.U:=by
     have:=qiF l 0 H _ hx
     simp only[Nat.zero_add] at this
     rw[this]
    refine ih (j+1) _ w'' A'' μ'' (by omega) ?_ ?_ ?_ ?_ ?_
    ·rw[eE,eH]
     exact h1.put g3 g1 fun t ht=>by rw[h4];exact d2 t ht
    ·rw[eH];exact g2
    ·rw[eH];exact h3.trans g3
    ·cases ops[j].dst<;>simpa [Act.put] using h4
    ·cases ops[j].dst<;>exact h5
  refine wpIn_region ?_
  rw[List.range_eq_range']
  refine key ops.size 0 a w A μ (by omega) ?_ ?_ ?_ hN rfl
  ·rw[qen _ _ _ _ (Nat.le_refl _),qb8 _ _ _ _ (Nat.le_refl _)];exact he
  ·rw[qb8 _ _ _ _ (Nat.le_refl _)];exact hS
  ·rw[qb8 _ _ _ _ (Nat.le_refl _)];exact .refl _ _ _ _
 ·cases hc
end
inductive IExit where
 | normal
 | exit (id:Nat)
 | ret
def IExit.to:IExit→Exit
 | .normal=>.normal
 | .exit id=>.exit id
 | .ret=>.ret
def TRun (P:Program)(N:Nat)(c:ICode)(env:Nat→T)(H:Heap)(e:IExit)(env':Nat→T)(H':Heap):Prop:=
 ∀code,qaQ P N code=some c→∀(ro:Option Nat) (w:World) (A:Sta) (μ:Nat→Nat) (a:Act),EnvR w A μ H a env→Sim w A μ H→a.tmps.size=N→
  ∀(Q:Exit→Act→World→Prop),(∀a' w' A' μ',EnvR w' A' μ' H' a' env'→Sim w' A' μ' H'→Trans w A μ H w' A' μ' H'→a'.tmps.size=N→a'.defers=a.defers→Q e.to a' w')→code.wpIn (Fo ro) 0 P Q a w
inductive LRun (P:Program) (N:Nat) (c:ICode):(Nat→T)→Heap→IExit→(Nat→T)→Heap→Nat→Prop
 | stop {env H e env' H'} (h:TRun P N c env H e env' H') (he:e≠.normal):LRun P N c env H e env' H' 0
 | next {env H env1 H1 e env' H' n} (h:TRun P N c env H .normal env1 H1) (t:LRun P N c env1 H1 e env' H' n):LRun P N c env H e env' H' (n+1)
theorem qrl {P:Program}{Q:Exit→Act→World→Prop}{c:Code}{ro:Option Nat}(I:Nat→Act→World→Prop)
 (round:∀n a w,I n a w→c.wpIn (Fo ro) 0 P (Exit.then (fun a' w'=>∃m,m<n∧I m a' w') Q) a w) {n:Nat} {a:Act} {w:World} (h₀:I n a w):(Code.loop c).wpIn (Fo ro) 0 P Q a w:=by
 intro b k cs hro hb hr
 have key:∀n a w,I n a w→
  ∃e a' w',Q e a' w'∧ArrivesIn (Machine.fenced P (Fo ro)) P (lone (b.atR a (.code c::.inLoop c::k)) cs w) b k cs e a' w':=by
  intro n
  induction n using Nat.strongRecOn with
  | _ n ih=>
   intro a w hI
   obtain⟨e,a₁,w₁,hq,harr⟩:=round n a w hI b (.inLoop c::k) cs hro hb hr
   cases e with
   | normal=>
    obtain⟨m,hlt,hI₁⟩:=hq
    obtain⟨e₂,a₂,w₂,hq₂,harr₂⟩:=ih m hlt a₁ w₁ hI₁
    exact⟨e₂,a₂,w₂,hq₂,.of_steps (StepsIn.trans harr (.one (fenced_calm hb hr rfl) stepR_inLoop)) harr₂⟩
   | exit id=>exact⟨_,a₁,w₁,hq,.pass (x:=.inLoop c) rfl (fun _ _=>.inl (by simp)) harr⟩
   | goto l=>exact⟨_,a₁,w₁,hq,.pass (x:=.inLoop c) rfl (fun _ _=>.inl (by simp)) harr⟩
   | ret=>exact⟨_,a₁,w₁,hq,.pass (x:=.inLoop c) rfl (fun _ _=>.inl (by simp)) harr⟩
   | panic ch=>exact⟨_,a₁,w₁,hq,.pass (x:=.inLoop c) rfl (fun _ _=>.inl (by simp)) harr⟩
   | outgrown=>exact⟨_,a₁,w₁,hq,.pass (x:=.inLoop c) rfl (fun _ _=>.inl (by simp)) harr⟩
 obtain⟨e,a',w',hq,harr⟩:=key n a w h₀
 exact⟨e,a',w',hq,.of_steps (.one (fenced_calm hb hr rfl) stepR_loop) harr⟩
def W (P:Program)(N:Nat)(c:ICode)(env:Nat→T)(H:Heap)(Q:IExit→(Nat→T)→Heap→Prop):Prop:=∃e env' H',TRun P N c env H e env' H'∧Q e env' H'
def WL (P:Program)(N:Nat)(c:ICode)(env:Nat→T)(H:Heap)(Q:IExit→(Nat→T)→Heap→Prop):Prop:=∃e env' H' n,LRun P N c env H e env' H' n∧Q e env' H'
def thn (next:(Nat→T)→Heap→Prop)(Q:IExit→(Nat→T)→Heap→Prop):IExit→(Nat→T)→Heap→Prop
 | .normal,env,H=>next env H
 | e,env,H=>Q e env H
def inB (id:Nat)(Q:IExit→(Nat→T)→Heap→Prop):IExit→(Nat→T)→Heap→Prop
 | .exit i,env,H=>if i=id then Q .normal env H else Q (.exit i) env H
 | e,env,H=>Q e env H
section
variable {P:Program} {N:Nat} {a b c:ICode} {env:Nat→T} {H:Heap} {Q:IExit→(Nat→T)→Heap→Prop}
theorem qmh {code:Code}(h:qaQ P N code=some (.seq a b)):∃x y,code=.seq x y∧qaQ P N x=some a∧qaQ P N y=some b:=by
 cases code<;>simp only[qaQ] at h
 case seq x y=>
  split at h
  ·rename_i a' b' h1 h2
   injection h with h
   injection h with h3 h4
   subst h3;subst h4
   exact⟨x,y,rfl,h1,h2⟩
  ·cases h
 all_goals first
  | (cases h;done)
  | (simp at h;done)
  | (
   unfold qcm at h;split at h
   ·split at h
    ·split at h<;>simp at h
    ·simp at h
   ·cases h)
  | (split at h<;>simp at h)
theorem qoU {code:Code}{x:Opd}(h:qaQ P N code=some (.cond x a b)):∃o p q,code=.cond o p q∧opd o=some x∧qaQ P N p=some a∧qaQ P N q=some b:=by
 cases code<;>simp only[qaQ] at h
 case cond o p q=>
  split at h
  ·rename_i a' b' c' h1 h2 h3
   injection h with h
   injection h with h4 h5 h6
   subst h4;subst h5;subst h6
   exact⟨o,p,q,rfl,h1,h2,h3⟩
  ·cases h
 all_goals first
  | (cases h;done)
  | (simp at h;done)
  | (
   unfold qcm at h;split at h
   ·split at h
    ·split at h<;>simp at h
    ·simp at h
   ·cases h)
  | (split at h<;>simp at h)
theorem qit {code:Code}{id:Nat}(h:qaQ P N code=some (.block id a)):∃p,code=.block id p∧qaQ P N p=some a:=by
 cases code<;>simp only[qaQ] at h
 case block i p=>
  split at h
  ·rename_i a' h1
   injection h with h
   injection h with h4 h5
   subst h4;subst h5
   exact⟨p,rfl,h1⟩
  ·cases h
 all_goals first
  | (cases h;done)
  | (simp at h;done)
  | (
   unfold qcm at h;split at h
   ·split at h
    ·split at h<;>simp at h
    ·simp at h
   ·cases h)
  | (split at h<;>simp at h)
theorem qoW {code:Code}(h:qaQ P N code=some (.loop a)):∃p,code=.loop p∧qaQ P N p=some a:=by
 cases code<;>simp only[qaQ] at h
 case loop p=>
  split at h
  ·rename_i a' h1
   injection h with h
   injection h with h4
   subst h4
   exact⟨p,rfl,h1⟩
  ·cases h
 all_goals first
  | (cases h;done)
  | (simp at h;done)
  | (
   unfold qcm at h;split at h
   ·split at h
    ·split at h<;>simp at h
    ·simp at h
   ·cases h)
  | (split at h<;>simp at h)
theorem qoV {code:Code}{id:Nat}(h:qaQ P N code=some (.exit id)):code=.exit id:=by
 cases code<;>simp only[qaQ] at h
 case exit i=>simp at h;rw[h]
 all_goals first
  | (cases h;done)
  | (simp at h;done)
  | (
   unfold qcm at h;split at h
   ·split at h
    ·split at h<;>simp at h
    ·simp at h
   ·cases h)
  | (split at h<;>simp at h)
theorem qrD {code:Code}(h:qaQ P N code=some .ret):code=.ret:=by
 cases code<;>simp only[qaQ] at h
 case ret=>rfl
 all_goals first
  | (cases h;done)
  | (simp at h;done)
  | (
   unfold qcm at h;split at h
   ·split at h
    ·split at h<;>simp at h
    ·simp at h
   ·cases h)
  | (split at h<;>simp at h)
theorem qoX {code:Code}(h:qaQ P N code=some .skip):code=.skip:=by
 cases code<;>simp only[qaQ] at h
 case skip=>rfl
 all_goals first
  | (cases h;done)
  | (simp at h;done)
  | (
   unfold qcm at h;split at h
   ·split at h
    ·split at h<;>simp at h
    ·simp at h
   ·cases h)
  | (split at h<;>simp at h)
theorem qrC {code:Code}{rows:List IRow}{bm:List Nat}{d:Bool}(h:qaQ P N code=some (.reg rows bm d)):∃id ops,code=.region id ops d∧qcm P N ops d=some (.reg rows bm d):=by
 cases code<;>simp only[qaQ] at h
 case region id ops dr=>
  have:dr=d:=by
   have h':=h
   unfold qcm at h'
   split at h'
   ·split at h'
    ·rename_i hd
     split at h'
     ·simp only[Option.some.injEq,ICode.reg.injEq] at h'
      rw[hd,h'.2.2]
     ·cases h'
    ·rename_i hd
     simp only[Option.some.injEq,ICode.reg.injEq] at h'
     rw[←h'.2.2];simpa using hd
   ·cases h'
  subst this
  exact⟨id,ops,rfl,h⟩
 all_goals first
  | (cases h;done)
  | (simp at h;done)
  | (split at h<;>simp at h)
theorem qcL (h:Q .normal env H):W P N .skip env H Q:=by
 refine⟨.normal,env,H,fun code hc ro w A μ a he hS hN Q' hQ=>?_,h⟩
 rw[qoX hc]
 exact wpIn_skip (hQ a w A μ he hS (.refl _ _ _ _) hN rfl)
theorem qcz {id:Nat}(h:Q (.exit id) env H):W P N (.exit id) env H Q:=by
 refine⟨.exit id,env,H,fun code hc ro w A μ a he hS hN Q' hQ=>?_,h⟩
 rw[qoV hc]
 exact wpIn_exit (hQ a w A μ he hS (.refl _ _ _ _) hN rfl)
theorem qaW (h:Q .ret env H):W P N .ret env H Q:=by
 refine⟨.ret,env,H,fun code hc ro w A μ a he hS hN Q' hQ=>?_,h⟩
 rw[qrD hc]
 exact wpIn_ret (hQ a w A μ he hS (.refl _ _ _ _) hN rfl)
theorem qbS (h:W P N a env H (thn (fun env' H'=>W P N b env' H' Q) Q)):W P N (.seq a b) env H Q:=by
 obtain⟨e,env1,H1,h1,h2⟩:=h
 by_cases hn:e=.normal
 ·subst hn
  obtain⟨e',env2,H2,h3,h4⟩:=h2
  refine⟨e',env2,H2,fun code hc ro w A μ a' he hS hN Q' hQ=>?_,h4⟩
  obtain⟨x,y,rfl,hx,hy⟩:=qmh hc
  refine wpIn_seq (h1 x hx ro w A μ a' he hS hN _ fun a1 w1 A1 μ1 g1 g2 g3 g4 g5=>?_)
  exact h3 y hy ro w1 A1 μ1 a1 g1 g2 g4 _ fun a2 w2 A2 μ2 k1 k2 k3 k4 k5=>hQ a2 w2 A2 μ2 k1 k2 (g3.trans k3) k4 (k5.trans g5)
 ·refine⟨e,env1,H1,fun code hc ro w A μ a' he hS hN Q' hQ=>?_,?_⟩
  ·obtain⟨x,y,rfl,hx,hy⟩:=qmh hc
   refine wpIn_seq (h1 x hx ro w A μ a' he hS hN _ fun a1 w1 A1 μ1 g1 g2 g3 g4 g5=>?_)
   have:=hQ a1 w1 A1 μ1 g1 g2 g3 g4 g5
   cases e with
   | normal=>exact absurd rfl hn
   | exit i=>exact this
   | ret=>exact this
  ·cases e with
   | normal=>exact absurd rfl hn
   | exit i=>exact h2
   | ret=>exact h2
theorem qan {x:Opd}{t:Bool}(hx:x.ev env=.bool t)(h:W P N (if t then a else b) env H Q):W P N (.cond x a b) env H Q:=by
 obtain⟨e,env1,H1,h1,h2⟩:=h
 refine⟨e,env1,H1,fun code hc ro w A μ a' he hS hN Q' hQ=>?_,h2⟩
 obtain⟨o,p,q,rfl,ho,hp,hq⟩:=qoU hc
 have hr:=qas ho he hS.glb
 rw[hx] at hr
 refine wpIn_cond hr.bool_inv ?_
 cases t
 ·exact h1 q hq ro w A μ a' he hS hN Q' hQ
 ·exact h1 p hp ro w A μ a' he hS hN Q' hQ
theorem qcB {id:Nat}(h:W P N a env H (inB id Q)):W P N (.block id a) env H Q:=by
 obtain⟨e,env1,H1,h1,h2⟩:=h
 by_cases hn:e=.exit id
 ·subst hn
  refine⟨.normal,env1,H1,fun code hc ro w A μ a' he hS hN Q' hQ=>?_,by simpa [inB] using h2⟩
  obtain⟨p,rfl,hp⟩:=qit hc
  refine wpIn_block (h1 p hp ro w A μ a' he hS hN _ fun a1 w1 A1 μ1 g1 g2 g3 g4 g5=>?_)
  show Exit.inBlock id Q' (.exit id) a1 w1
  simp only[Exit.inBlock,if_true]
  exact hQ a1 w1 A1 μ1 g1 g2 g3 g4 g5
 ·refine⟨e,env1,H1,fun code hc ro w A μ a' he hS hN Q' hQ=>?_,?_⟩
  ·obtain⟨p,rfl,hp⟩:=qit hc
   refine wpIn_block (h1 p hp ro w A μ a' he hS hN _ fun a1 w1 A1 μ1 g1 g2 g3 g4 g5=>?_)
   have:=hQ a1 w1 A1 μ1 g1 g2 g3 g4 g5
   cases e with
   | normal=>exact this
   | ret=>exact this
   | exit i=>
    show Exit.inBlock id Q' (.exit i) a1 w1
    have hne:i≠id:=fun e=>hn (by rw[e])
    simp only[Exit.inBlock,hne,if_false]
    exact this
  ·cases e with
   | normal=>exact h2
   | ret=>exact h2
   | exit i=>
    have hne:i≠id:=fun e=>hn (by rw[e])
    simpa [inB,hne] using h2
theorem qrn (h:W P N c env H (thn (fun env' H'=>WL P N c env' H' Q) Q)):WL P N c env H Q:=by
 obtain⟨e,env1,H1,h1,h2⟩:=h
 cases e with
 | normal=>
  obtain⟨e',env2,H2,n,h3,h4⟩:=h2
  exact⟨e',env2,H2,n+1,.next h1 h3,h4⟩
 | exit i=>exact⟨_,env1,H1,0,.stop h1 (by simp),h2⟩
 | ret=>exact⟨_,env1,H1,0,.stop h1 (by simp),h2⟩
theorem qdx (h:WL P N c env H Q):W P N (.loop c) env H Q:=by
 obtain⟨e,env1,H1,n,h1,h2⟩:=h
 refine⟨e,env1,H1,fun code hc ro w A μ a he hS hN Q' hQ=>?_,h2⟩
 obtain⟨p,rfl,hp⟩:=qoW hc
 refine qrl (n:=n) (fun n a' w'=>∃env' H' A' μ',LRun P N c env' H' e env1 H1 n∧EnvR w' A' μ' H' a' env'∧Sim w' A' μ' H'∧Trans w A μ H w' A' μ' H'∧a'.tmps.size=N∧a'.defers=a.defers) (fun n a' w' hI=>?_) ⟨env,H,A,μ,h1,he,hS,.refl _ _ _ _,hN,rfl⟩
 obtain⟨env',H',A',μ',hr,g1,g2,g3,g4,g5⟩:=hI
 cases hr with
 | stop h hne=>
  refine h p hp ro w' A' μ' a' g1 g2 g4 _ fun a2 w2 A2 μ2 k1 k2 k3 k4 k5=>?_
  have:=hQ a2 w2 A2 μ2 k1 k2 (g3.trans k3) k4 (k5.trans g5)
  cases e with
  | normal=>exact absurd rfl hne
  | exit i=>exact this
  | ret=>exact this
 | next h t=>
  refine h p hp ro w' A' μ' a' g1 g2 g4 _ fun a2 w2 A2 μ2 k1 k2 k3 k4 k5=>?_
  exact⟨_,Nat.lt_succ_self _,_,_,A2,μ2,t,k1,k2,g3.trans k3,k4,k5.trans g5⟩
def Weak (env:Nat→T)(H:Heap)(env':Nat→T)(H':Heap):Prop:=
 ∀w A μ a,EnvR w A μ H a env→Sim w A μ H→∃A' μ',EnvR w A' μ' H' a env'∧Sim w A' μ' H'∧Trans w A μ H w A' μ' H'
theorem qth {env':Nat→T}{H':Heap}(hw:Weak env H env' H')(h:W P N c env' H' Q):W P N c env H Q:=by
 obtain⟨e,env1,H1,h1,h2⟩:=h
 refine⟨e,env1,H1,fun code hc ro w A μ a he hS hN Q' hQ=>?_,h2⟩
 obtain⟨A',μ',g1,g2,g3⟩:=hw w A μ a he hS
 exact h1 code hc ro w A' μ' a g1 g2 hN Q' fun a2 w2 A2 μ2 k1 k2 k3 k4 k5=>hQ a2 w2 A2 μ2 k1 k2 (g3.trans k3) k4 k5
theorem W_mask {env':Nat→T}(hw:∀t,env' t=env t∨env' t=.undef)(h:W P N c env' H Q):W P N c env H Q:=
 qth (fun w A μ a he hS=>⟨A,μ,fun t=>by
  rcases hw t with e | e
  ·rw[e];exact he t
  ·rw[e];exact .undef _,hS,.refl _ _ _ _⟩) h
theorem W_reg {rows:List IRow}{bm:List Nat}{d:Bool}(base:Nat)(hm:P.follows .mixedOrders=true)
 (h:RunR P base 0 rows env H [] fun env' H' log=>(d=true→log.Pairwise (chkP bm))∧Q .normal env' H'):W P N (.reg rows bm d) env H Q:=by
 obtain⟨l,hk,hl,hstep⟩:=qfZ rows 0 env H [] h
 have hback:RunR P base 0 rows env H [] fun env' H' log=>(d=true→log.Pairwise (chkP bm))∧env'=envS (fun i=>decide (i<0+rows.length)) 0 l env∧H'=qbJ (fun i=>decide (i<0+rows.length)) 0 l H:=by
  have key:∀(rows:List IRow) (j:Nat) (env:Nat→T) (H:Heap) (log:List LogE) (l:List (Option Nat×Rec)),l.length=rows.length→
   (∀(i:Nat) (r:IRow) (x:Option Nat×Rec),rows[i]? = some r→l[i]? = some x→x.1=r.dst∧qrm P r (base+(j+i)) (envS (fun q=>decide (q<j+i)) j l env) (qbJ (fun q=>decide (q<j+i)) j l H) x.2.v x.2.F x.2.U)→
   ∀K,K (envS (fun i=>decide (i<j+rows.length)) j l env) (qbJ (fun i=>decide (i<j+rows.length)) j l H) (qnW j l log)→RunR P base j rows env H log K:=by
   intro rows
   induction rows with
   | nil=>
    intro j env H log l hl hs K hK
    have:l=[]:=List.eq_nil_of_length_eq_zero hl
    subst this
    exact hK
   | cons r rs ih=>
    intro j env H log l hl hs K hK
    cases l with
    | nil=>simp at hl
    | cons x l=>
     obtain⟨d1,s1⟩:=hs 0 r x rfl rfl
     rw[Nat.add_zero,qen _ _ _ _ (Nat.le_refl _),qb8 _ _ _ _ (Nat.le_refl _)] at s1
     refine⟨x.2.v,x.2.F,x.2.U,s1,ih (j+1) _ _ _ l (by simpa using hl) (fun i r' x' hr hx=>?_) K ?_⟩
     ·obtain⟨a1,a2⟩:=hs (i+1) r' x' (by simpa using hr) (by simpa using hx)
      refine⟨a1,?_⟩
      simp only[envS,qbJ] at a2
      rw[if_pos (decide_eq_true (by omega)),if_pos (decide_eq_true (by omega))] at a2
      have e:(fun q=>decide (q<j+(i+1)))=fun q=>decide (q<j+1+i):=funext fun q=>decide_eq_decide.2 (by omega)
      rw[e,show j+(i+1)=j+1+i by omega,d1] at a2
      exact a2
     ·simp only[envS,qbJ,qnW,List.length_cons] at hK
      rw[if_pos (decide_eq_true (by omega)),if_pos (decide_eq_true (by omega))] at hK
      have e:(fun i=>decide (i<j+(rs.length+1)))=fun i=>decide (i<j+1+rs.length):=funext fun i=>decide_eq_decide.2 (by omega)
      rw[e,d1] at hK
      exact hK
  exact key rows 0 env H [] l hl hstep _ ⟨hk.1,rfl,rfl⟩
 refine⟨.normal,_,_,fun code hc ro w A μ a he hS hN Q' hQ=>?_,hk.2⟩
 obtain⟨id,ops,rfl,hcr⟩:=qrC hc
 cases d with
 | true=>
  refine qst (base:=base) hm hcr (K:=fun env' H'=>env'=envS (fun i=>decide (i<0+rows.length)) 0 l env∧H'=qbJ (fun i=>decide (i<0+rows.length)) 0 l H) ?_ he hS hN fun env' H' a' w' A' μ' hK' g1 g2 g3 g4 g5=>?_
  ·have mono:∀(rows:List IRow) (j:Nat) (env:Nat→T) (H:Heap) (log:List LogE) (K K':(Nat→T)→Heap→List LogE→Prop),(∀a b c,K a b c→K' a b c)→RunR P base j rows env H log K→RunR P base j rows env H log K':=by
    intro rows
    induction rows with
    | nil=>intro j env H log K K' hKK h;exact hKK _ _ _ h
    | cons r rs ih=>intro j env H log K K' hKK h;obtain⟨v,F,U,h1,h2⟩:=h;exact⟨v,F,U,h1,ih _ _ _ _ _ _ hKK h2⟩
   exact mono _ _ _ _ _ _ _ (fun a b c hh=>⟨hh.1 rfl,hh.2⟩) hback
  ·obtain⟨rfl,rfl⟩:=hK'
   exact hQ a' w' A' μ' g1 g2 g3 g4 g5
 | false=>
  have hbm:bm=[]:=by
   have h':=hcr
   unfold qcm at h'
   split at h'
   ·simp only[Bool.false_eq_true,if_false,Option.some.injEq,ICode.reg.injEq,and_true] at h'
    exact h'.2.symm
   ·cases h'
  subst hbm
  refine qsu (base:=base) hcr (K:=fun env' H'=>env'=envS (fun i=>decide (i<0+rows.length)) 0 l env∧H'=qbJ (fun i=>decide (i<0+rows.length)) 0 l H) ?_ he hS hN fun env' H' a' w' A' μ' hK' g1 g2 g3 g4 g5=>?_
  ·have mono:∀(rows:List IRow) (j:Nat) (env:Nat→T) (H:Heap) (log:List LogE) (K K':(Nat→T)→Heap→List LogE→Prop),(∀a b c,K a b c→K' a b c)→RunR P base j rows env H log K→RunR P base j rows env H log K':=by
    intro rows
    induction rows with
    | nil=>intro j env H log K K' hKK h;exact hKK _ _ _ h
    | cons r rs ih=>intro j env H log K K' hKK h;obtain⟨v,F,U,h1,h2⟩:=h;exact⟨v,F,U,h1,ih _ _ _ _ _ _ hKK h2⟩
   exact mono _ _ _ _ _ _ _ (fun a b c hh=>hh.2) hback
  ·obtain⟨rfl,rfl⟩:=hK'
   exact hQ a' w' A' μ' g1 g2 g3 g4 g5
end
def qc5 (P:Program):List ResultVar→Option (List (Nat×Option Nat))
 | []=>some []
 | .tmp t::l=>(qc5 P l).map ((t,none)::·)
 | .cell a ty::l=>match lay P ty,qc5 P l with
  | some e,some r=>some ((a,some e)::r)
  | _,_=>none
def valR (env:Nat→T)(H:Heap):Nat×Option Nat→Option T
 | (t,none)=>some (env t)
 | (t,some e)=>match env t with
  | .ref id tot off=>match H id with
   | .live b=>if b.cs.length=tot∧off+esz e≤tot then some (mkEl e ((b.cs.drop off).take (esz e))) else none
   | _=>none
  | _=>none
def ql3 (env:Nat→T)(H:Heap):List (Nat×Option Nat)→Option (List T)
 | []=>some []
 | x::l=>match valR env H x,ql3 env H l with
  | some y,some ys=>some (y::ys)
  | _,_=>none
def resT (env:Nat→T)(H:Heap)(l:List (Nat×Option Nat)):Option T:=
 match ql3 env H l with
 | some [x]=>some x
 | some xs=>some (.tup xs)
 | none=>none
def argE (args:List T):Nat→T:=fun t=>args.getD t (.tup [])
def resF (a:Act):ResultVar→Sem Value
 | .tmp t=>pure (a.tmps.getD t Go.undef)
 | .cell b t=>do loadVar t (←asAddr (a.tmps.getD b Go.undef))
theorem qig {P:Program}{w:World}{A:Sta}{μ:Nat→Nat}{H:Heap}{a:Act}{env:Nat→T}(he:EnvR w A μ H a env)(hS:Sim w A μ H):∀ {rv:List ResultVar} {l:List (Nat×Option Nat)} {xs:List T},qc5 P rv=some l→ql3 env H l=some xs→
 ∃vs:List Value,(rv.mapM (resF a)).run P w=.ok vs w∧vs.length=xs.length∧∀i,i<xs.length→Rep w A μ H (vs.getD i Go.undef) (xs.getD i .undef)
 | [],l,xs,h1,h2=>by
  simp only[qc5,Option.some.injEq] at h1
  subst h1
  simp only[ql3,Option.some.injEq] at h2
  subst h2
  exact⟨[],by simp,rfl,fun i hi=>by cases hi⟩
 | .tmp t::rv,l,xs,h1,h2=>by
  simp only[qc5] at h1
  cases hr:qc5 P rv with
  | none=>simp[hr] at h1
  | some r=>
   simp only[hr,Option.map_some,Option.some.injEq] at h1
   subst h1
   simp only[ql3,valR] at h2
   split at h2
   ·rename_i y ys hy hys
    injection hy with hy
    injection h2 with h2
    subst h2
    obtain⟨vs,g1,g2,g3⟩:=qig he hS hr hys
    refine⟨a.tmps.getD t Go.undef::vs,by
     simp only[List.mapM_cons,Sem.run_bind]
     have h0:(resF a (.tmp t)).run P w=.ok (a.tmps.getD t Go.undef) w:=rfl
     rw[h0]
     simp only[Result.andThen_ok]
     rw[g1]
     rfl,by simp[g2],fun i hi=>?_⟩
    cases i with
    | zero=>rw[←hy];exact he t
    | succ i=>exact g3 i (by simpa using hi)
   ·cases h2
 | .cell b ty::rv,l,xs,h1,h2=>by
  simp only[qc5] at h1
  split at h1
  ·rename_i e r hl hr
   injection h1 with h1
   subst h1
   simp only[ql3,valR] at h2
   split at h2
   ·rename_i y ys hy hys
    injection h2 with h2
    subst h2
    obtain⟨vs,g1,g2,g3⟩:=qig he hS hr hys
    split at hy
    ·rename_i id tot off hb
     split at hy
     ·rename_i blk hblk
      split at hy
      ·rename_i hc
       injection hy with hy
       have hx:=he b
       rw[hb] at hx
       generalize hvx:a.tmps.getD b Go.undef=vx at hx
       cases hx with
       | refS p _ _ _ hst=>
        rcases hst with hd | ⟨b',hb',hl'⟩
        ·rw[hblk] at hd;cases hd
        ·rw[hblk] at hb';injection hb' with hb';subst hb';omega
       | ref _ _ _ b0 hb0 ht0=>
        obtain⟨cur,k1,k2,k3,k4⟩:=hS.blk id blk hblk
        have hcell:∀j,j<esz e→w.cell? ((⟨μ id,off,none⟩:Addr).add j)=some (cur.getD (off+j) Go.undef):=fun j hj=>by
         rw[qdd]
         have:off+j<cur.size:=by omega
         simp[World.cell?,k1,this]
        have h0:(resF a (.cell b ty)).run P w=.ok (if e=0 then ((List.range (esz e)).map fun j=>cur.getD (off+j) Go.undef).getD 0 Go.undef else .agg ((List.range (esz e)).map fun j=>cur.getD (off+j) Go.undef).toArray) w:=by
         simp only[resF,Sem.run_bind,hvx,asAddr,Sem.run_pure,Result.andThen_ok]
         exact qdb (P:=P) hl _ _ hcell
        refine⟨_::vs,by
         simp only[List.mapM_cons,Sem.run_bind]
         rw[h0]
         simp only[Result.andThen_ok]
         rw[g1]
         rfl,by simp[g2],fun i hi=>?_⟩
        cases i with
        | zero=>
         rw[←hy]
         refine qfP (us:=(List.range (esz e)).map fun j=>cur.getD (off+j) Go.undef) (by simp;omega) (by simp;omega) (fun c hc=>k3 c (List.mem_of_mem_drop (List.mem_of_mem_take hc))) fun i hi=>?_
         have hi':i<esz e:=by simp at hi;omega
         have e1:(((List.range (esz e)).map fun j=>cur.getD (off+j) Go.undef)).getD i Go.undef=cur.getD (off+i) Go.undef:=by
          simp[List.getD_eq_getElem?_getD,hi']
         have e2:((blk.cs.drop off).take (esz e)).getD i .undef=blk.cs.getD (off+i) .undef:=by
          simp[List.getD_eq_getElem?_getD,hi']
         rw[e1,e2]
         exact k4 _ (by omega)
        | succ i=>exact g3 i (by simpa using hi)
      ·cases hy
     ·cases hy
    ·cases hy
   ·cases h2
  ·cases h1
theorem TC_of {P:Program}{f:FuncId}{fn:Func}{code:Code}{ic:ICode}{rs:List (Nat×Option Nat)}{args:List T}{H H':Heap}{r:T}(hf:P.funcs[f]? = some fn)(hb:fn.body=some code)(hc:qaQ P fn.ntmps code=some ic)(hent:Enters P f)
 (hres:qc5 P fn.results.toList=some rs) (hn:args.length≤fn.ntmps) (hw:W P fn.ntmps ic (argE args) H fun e env' H''=>(e=.ret∨e=.normal)∧resT env' H'' rs=some r∧H''=H'):TC P f args H r H':=by
 refine⟨hent,fun w A μ vs hS hR=>?_⟩
 obtain⟨e,env1,H1,h1,he1,h2,rfl⟩:=hw
 refine calls_of_wp hf hb (wpIn_wide.1 (h1 code hc none w A μ _ ?_ hS ?_ _ fun a' w' A' μ' g1 g2 g3 g4 g5=>?_))
 ·intro t
  show Rep w A μ H ((vs++Array.replicate (fn.ntmps - vs.size) Go.undef).getD t Go.undef) (args.getD t (.tup []))
  by_cases ht:t<args.length
  ·have:=hR.2 t ht
   have e1:(vs++Array.replicate (fn.ntmps - vs.size) Go.undef).getD t Go.undef=vs.getD t Go.undef:=by
    simp only[Array.getD_eq_getD_getElem?]
    rw[Array.getElem?_append_left (by rw[hR.1];exact ht)]
   have e2:args.getD t (.tup [])=args.getD t .undef:=by
    simp[List.getD_eq_getElem?_getD,ht]
   rw[e1,e2];exact this
  ·have e1:(vs++Array.replicate (fn.ntmps - vs.size) Go.undef).getD t Go.undef=Go.undef:=by
    simp only[Array.getD_eq_getD_getElem?]
    rw[Array.getElem?_append_right (by rw[hR.1];omega)]
    by_cases h:t - vs.size<fn.ntmps - vs.size<;>simp[h]
   have e2:args.getD t (.tup [])=.tup []:=by
    simp[List.getD_eq_getElem?_getD,List.getElem?_eq_none (Nat.le_of_not_lt ht)]
   rw[e1,e2]
   exact .tup #[] [] rfl fun i hi=>by cases hi
 ·simp[hR.1];omega
 ·have hres2:∃v,(results fn a'.tmps).run P w'=.ok v w'∧Rep w' A' μ' H1 v r:=by
   unfold resT at h2
   cases hv:ql3 env1 H1 rs with
   | none=>simp[hv] at h2
   | some xs=>
    obtain⟨us,k1,k2,k3⟩:=qig g1 g2 hres hv
    have hrun:(results fn a'.tmps).run P w'=.ok (if h:us.toArray.size=1 then us.toArray[0] else .tuple us.toArray) w':=by
     have hfun:results fn a'.tmps=(do
      let vs ←fn.results.mapM (resF a')
      pure (if h:vs.size=1 then vs[0] else .tuple vs)):=by
      unfold results
      congr 1
     rw[hfun,Array.mapM_eq_mapM_toList,Sem.run_bind,Sem.run_map,k1]
     rfl
    refine⟨_,hrun,?_⟩
    rw[hv] at h2
    match us,xs,k2,k3,h2 with
    | [],[],_,_,h2=>
     simp only[Option.some.injEq] at h2
     subst h2
     exact .tup #[] [] rfl fun i hi=>by cases hi
    | [u],[x],_,k3,h2=>
     simp only[Option.some.injEq] at h2
     subst h2
     exact k3 0 (by simp)
    | u::u2::us,x::x2::xs,k2,k3,h2=>
     simp only[Option.some.injEq] at h2
     subst h2
     rw[dif_neg (by simp)]
     exact .tup _ _ (by simpa using k2) fun i hi=>by
      have:=k3 i hi
      rw[←getD_toList];simpa using this
  obtain⟨v,hv,hrv⟩:=hres2
  rcases he1 with rfl | rfl
  ·exact⟨g5,v,hv,v,A',μ',rfl,hrv,g2,g3⟩
  ·exact⟨g5,v,hv,v,A',μ',rfl,hrv,g2,g3⟩
def ofL:List (Nat×T)→(Nat→T)
 | []=>fun _=>.undef
 | p::l=>fun t=>if t=p.1 then p.2 else ofL l t
theorem qdp (s:Nat)(x:T)(l:List (Nat×T))(t:Nat):ofL ((s,x)::l) t=if t=s then x else ofL l t:=rfl
theorem qlG (t:Nat):ofL [] t=.undef:=rfl
theorem qg3 (l:List (Nat×T))(s:Nat)(x:T):putE (ofL l) (some s) x=ofL ((s,x)::l):=rfl
theorem qfT (env:Nat→T)(x:T):putE env none x=env:=rfl
def hpL:List (Nat×Slot)→Heap
 | []=>fun _=>.free
 | p::l=>fun i=>if i=p.1 then p.2 else hpL l i
theorem qaP (s:Nat)(x:Slot)(l:List (Nat×Slot))(t:Nat):hpL ((s,x)::l) t=if t=s then x else hpL l t:=rfl
theorem qbK (t:Nat):hpL [] t=.free:=rfl
def setL (i:Nat)(s:Slot):List (Nat×Slot)→List (Nat×Slot)
 | []=>[(i,s)]
 | p::l=>if p.1=i then (i,s)::l else p::setL i s l
theorem qe4 (i:Nat)(s:Slot):setL i s []=[(i,s)]:=rfl
theorem qdc (i:Nat)(s:Slot)(j:Nat)(x:Slot)(l:List (Nat×Slot)):setL i s ((j,x)::l)=if j=i then (i,s)::l else (j,x)::setL i s l:=rfl
theorem qqK (i:Nat)(s:Slot):∀l:List (Nat×Slot),Heap.set (hpL l) i s=hpL (setL i s l)
 | []=>by
  funext t
  rfl
 | (j,x)::l=>by
  have ih:=qqK i s l
  rw[qdc]
  funext t
  by_cases hp:j=i
  ·subst hp
   rw[if_pos rfl,qaP]
   by_cases h:t=j
   ·simp[Heap.set,h]
   ·simp[Heap.set,h,qaP]
  ·rw[if_neg hp,qaP,←ih]
   by_cases h:t=i
   ·subst h
    have:t≠j:=fun e=>hp e.symm
    simp[Heap.set,this]
   ·simp[Heap.set,h,qaP]
theorem qcG (l:List (Nat×Slot)):Heap.upd (hpL l) []=hpL l:=rfl
theorem qgv (i:Nat)(s:Slot)(U:List (Nat×Slot))(l:List (Nat×Slot)):Heap.upd (hpL l) ((i,s)::U)=Heap.upd (hpL (setL i s l)) U:=by
 show Heap.upd (Heap.set (hpL l) i s) U=_
 rw[qqK]
theorem qhd (cs:List T):(T.agg cs).cells=cs:=rfl
theorem qlH (cs:List T):okc (T.agg cs)=true:=rfl
theorem qf6 (b:Bool):(T.bool b).cells=[.bool b]:=rfl
theorem qjU (b:Bool):okc (T.bool b)=true:=rfl
theorem qhe (k:IntKind)(n:Int):(T.int k n).cells=[.int k n]:=rfl
theorem qlI (k:IntKind)(n:Int):okc (T.int k n)=true:=rfl
theorem qhj (s:ByteArray):(T.str s).cells=[.str s]:=rfl
theorem qlM (s:ByteArray):okc (T.str s)=true:=rfl
theorem qf7 (xs:List T):(T.list xs).cells=[.list xs]:=rfl
theorem qjV (xs:List T):okc (T.list xs)=true:=rfl
theorem qhf  : T.nil.cells=[.nil]:=rfl
theorem qlJ  : okc T.nil=true:=rfl
theorem qf8  : T.nilp.cells=[.nilp]:=rfl
theorem qjW  : okc T.nilp=true:=rfl
theorem qi5 (f:FuncId)(l:List T):(T.fn f l).cells=[.fn f l]:=rfl
theorem qpY (f:FuncId)(l:List T):okc (T.fn f l)=true:=rfl
theorem qfe  : T.nilfn.cells=[.nilfn]:=rfl
theorem qhU  : okc T.nilfn=true:=rfl
theorem qhh (i t o:Nat):(T.ref i t o).cells=[.ref i t o]:=rfl
theorem qlL (i t o:Nat):okc (T.ref i t o)=true:=rfl
theorem qi7 (i t e o n:Nat):(T.sl i t e o n).cells=[.sl i t e o n]:=rfl
theorem qp0 (i t e o n:Nat):okc (T.sl i t e o n)=true:=rfl
theorem qi6 (i:Nat):(T.mp i).cells=[.mp i]:=rfl
theorem qpZ (i:Nat):okc (T.mp i)=true:=rfl
theorem qff  : T.nilmp.cells=[.nilmp]:=rfl
theorem qhV  : okc T.nilmp=true:=rfl
theorem qhg (cs:List T):(T.ptr cs).cells=[.ptr cs]:=rfl
theorem qlK (cs:List T):okc (T.ptr cs)=true:=rfl
def reqC (env:Nat→T):IOp→Option (Prop×Req)
 | .mv x=>some (True,.val (x.ev env))
 | .pick c a b=>match c.ev env with
  | .bool t=>some (True,.val (if t then a.ev env else b.ev env))
  | _=>none
 | .alloc ty zs=>some (True,.new ty zs true 0 0)
 | .box ty x=>some (okc (x.ev env)=true,.new ty (x.ev env).cells true 0 0)
 | .build zs ps=>(qcP env ps zs).map fun cs=>(True,.val (.agg cs))
 | .rows ty e n zs ps=>(qcP env ps (repl n zs)).map fun cs=>(True,.new ty cs false e n)
 | .load e a=>match a.ev env with
  | .ref id tot off=>some (True,.load e id tot off)
  | .ptr cs=>some (cs.length=esz e,.val (mkEl e cs))
  | _=>none
 | .store e a x=>match a.ev env with
  | .ref id tot off=>some (okc (x.ev env)=true∧(x.ev env).cells.length=esz e,.store id tot off (x.ev env).cells)
  | _=>none
 | .bin op k x y=>(binT op k (x.ev env) (y.ev env)).map fun v=>(True,.val v)
 | .un op x=>match op,x.ev env with
  | .not,.bool b=>some (True,.val (.bool !b))
  | .neg,.int k n=>some (True,.val (.int k (k.wrap (0 - n))))
  | _,_=>none
 | .conv k x=>match x.ev env with
  | .int _ n=>some (True,.val (.int k (k.wrap n)))
  | _=>none
 | .faddr off k x=>match x.ev env with
  | .ref id tot o=>some (True,.val (.ref id tot (o+off)))
  | .ptr cs=>some (off+k≤cs.length,.val (.ptr ((cs.drop off).take k)))
  | _=>none
 | .field off e x=>match x.ev env with
  | .agg cs=>some (off+esz e≤cs.length,.val (mkEl e ((cs.drop off).take (esz e))))
  | _=>none
 | .iaddr e none x i=>match x.ev env,i.ev env with
  | .sl id tot e' off n,.int _ j=>some (e'=e∧0≤j∧j<n,.val (.ref id tot (off+j.toNat*esz e)))
  | .list xs,.int _ j=>some (0≤j∧j<xs.length∧(xs.getD j.toNat .undef).cells.length=esz e,.val (.ptr (xs.getD j.toNat .undef).cells))
  | _,_=>none
 | .iaddr e (some n) x i=>match x.ev env,i.ev env with
  | .ref id tot o,.int _ j=>some (0≤j∧j<n,.val (.ref id tot (o+j.toNat*esz e)))
  | .ptr cs,.int _ j=>some (0≤j∧j<n∧j.toNat*esz e+esz e≤cs.length,.val (.ptr ((cs.drop (j.toNat*esz e)).take (esz e))))
  | _,_=>none
 | .index e n x i=>match x.ev env,i.ev env with
  | .agg cs,.int _ j=>some (0≤j∧j<n∧j.toNat*esz e+esz e≤cs.length,.val (mkEl e ((cs.drop (j.toNat*esz e)).take (esz e))))
  | _,_=>none
 | .sindex x i=>match x.ev env,i.ev env with
  | .str s,.int _ j=>some (0≤j∧j.toNat<s.size,.val (.int .u8 (qcf s j)))
  | _,_=>none
 | .slice e x lo hi=>match x.ev env,loI (lo.map (·.ev env)) with
  | .nil,some l=>match hiI 0 (hi.map (·.ev env)) with
   | some h=>some (l=0∧h=0,.val .nil)
   | none=>none
  | .list xs,some l=>match hiI xs.length (hi.map (·.ev env)) with
   | some h=>some (l≤h∧h≤xs.length∧sizedB e xs=true,.val (.list ((xs.drop l).take (h - l))))
   | none=>none
  | .sl id tot e' off n,some l=>match hiI n (hi.map (·.ev env)) with
   | some h=>some (e'=e∧l≤h∧h≤n,.val (if l=h then .list [] else .sl id tot e (off+l*esz e) (h - l)))
   | none=>none
  | _,_=>none
 | .sslice x lo hi=>(req env (.sslice x lo hi)).map fun q=>(True,q)
 | .mkfn f caps=>some (True,.val (.fn f (caps.map (·.ev env))))
 | .extract x i=>match x.ev env with
  | .tup vs=>some (i<vs.length,.val (vs.getD i .undef))
  | _=>none
 | .nilck x=>match x.ev env with
  | .ref id tot off=>some (True,.val (.ref id tot off))
  | .ptr cs=>some (True,.val (.ptr cs))
  | .fn f cs=>some (True,.val (.fn f cs))
  | _=>none
 | .len x=>(lenT (x.ev env)).map fun n=>(True,.val (.int .i64 n))
 | .slen x=>match x.ev env with
  | .str s=>some (True,.val (.int .i64 s.size))
  | _=>none
 | .alen n=>some (True,.val (.int .i64 n))
 | .app ty e s x=>match s.ev env,x.ev env with
  | .nil,.nil=>some (True,.val .nil)
  | .sl id tot e' off n,.nil=>some (True,.val (.sl id tot e' off n))
  | .nil,.list []=>some (True,.val .nil)
  | .emp,.list []=>some (True,.val .emp)
  | .sl id tot e' off n,.list []=>some (True,.val (.sl id tot e' off n))
  | .nil,.list ys=>some (ys≠[]∧sizedB e ys=true∧ys.length≤1000000000,.new ty (flat ys) false e ys.length)
  | .emp,.list ys=>some (ys≠[]∧sizedB e ys=true∧ys.length≤1000000000,.new ty (flat ys) false e ys.length)
  | .sl id tot e' off n,.list ys=>some (ys≠[]∧e'=e∧off=0∧sizedB e ys=true∧n+ys.length≤1000000000,.grow ty id tot e n ys.length (flat ys))
  | .nil,.sl id' tot' e' off m=>some (e'=e∧m≤1000000000,.newOf ty e id' tot' off m)
  | .sl id tot e' off n,.sl id' tot' e'' off' m=>some (e'=e∧e''=e∧off=0∧n+m≤1000000000,.growOf ty id tot e n id' tot' off' m)
  | _,_=>none
 | .mks ty e zs l c=>match l.ev env,c.ev env with
  | .int _ n,.int _ m=>some (0≤n∧n≤m∧m≤1000000000,.new ty (repl n.toNat zs) false e n.toNat)
  | _,_=>none
 | .mm isMax x y=>match x.ev env,y.ev env with
  | .int k a,.int _ b=>some (True,.val (.int k (if isMax then (if b > a then b else a) else (if b<a then b else a))))
  | _,_=>none
 | .appz ty e zs s n=>match s.ev env,n.ev env with
  | .nil,.int .i64 j=>some (0<j∧j≤1000000000,.new ty (repl j.toNat zs) false e j.toNat)
  | _,_=>none
 | .emp x=>(req env (.emp x)).map fun q=>(True,q)
 | .cap x=>(req env (.cap x)).map fun q=>(True,q)
 | .b2s x=>(req env (.b2s x)).map fun q=>(True,q)
 | .mkmap=>some (True,.newMap)
 | .look kk z ok m k=>match m.ev env with
  | .mp id=>some (isKind kk (k.ev env)=true,.look id (k.ev env) z ok)
  | _=>none
 | .mset kk m k v=>match m.ev env with
  | .mp id=>some (isKind kk (k.ev env)=true,.mset id (k.ev env) (v.ev env))
  | _=>none
 | .clear e zs x=>match x.ev env with
  | .sl id tot e' off n=>some (e'=e,.store id tot off (repl n zs))
  | .nil=>some (True,.val (.tup []))
  | _=>none
 | .slck x lo hi mx=>match x.ev env,lo.ev env,hi.ev env,mx.ev env with
  | .sl _ _ _ _ n,.int _ l,.int _ h,.int _ m=>some (0≤l∧l≤h∧h≤m∧m≤n,.val .undef)
  | _,_,_,_=>none
 | .bad=>none
theorem qfU {env:Nat→T}{o:IOp}{c:Prop}{q:Req}(h:reqC env o=some (c,q))(hc:c):req env o=some q:=by
 unfold reqC at h
 split at h
 case h_1=>simp only[Option.some.injEq,Prod.mk.injEq] at h;obtain⟨rfl,rfl⟩:=h;rfl
 case h_2=>
  split at h
  ·rename_i t ht
   simp only[Option.some.injEq,Prod.mk.injEq] at h;obtain⟨rfl,rfl⟩:=h;simp only[req,ht]
  ·cases h
 case h_3=>simp only[Option.some.injEq,Prod.mk.injEq] at h;obtain⟨rfl,rfl⟩:=h;rfl
 case h_4=>simp only[Option.some.injEq,Prod.mk.injEq] at h;obtain⟨rfl,rfl⟩:=h;simp only[req];rw[if_pos hc]
 case h_5=>
  rename_i zs ps
  cases hf:qcP env ps zs with
  | none=>simp[hf] at h
  | some cs=>simp only[hf,Option.map_some,Option.some.injEq,Prod.mk.injEq] at h;obtain⟨rfl,rfl⟩:=h;simp[req,hf]
 case h_6=>
  rename_i ty e n zs ps
  cases hf:qcP env ps (repl n zs) with
  | none=>simp[hf] at h
  | some cs=>simp only[hf,Option.map_some,Option.some.injEq,Prod.mk.injEq] at h;obtain⟨rfl,rfl⟩:=h;simp[req,hf]
 case h_7=>
  split at h
  ·rename_i ha;simp only[Option.some.injEq,Prod.mk.injEq] at h;obtain⟨rfl,rfl⟩:=h;simp only[req,ha]
  ·rename_i ha;simp only[Option.some.injEq,Prod.mk.injEq] at h;obtain⟨rfl,rfl⟩:=h;simp only[req,ha];rw[if_pos hc]
  ·cases h
 case h_8=>
  split at h
  ·rename_i ha;simp only[Option.some.injEq,Prod.mk.injEq] at h;obtain⟨rfl,rfl⟩:=h;simp only[req,ha];rw[if_pos hc]
  ·cases h
 case h_9=>
  rename_i op k x y
  cases hb:binT op k (x.ev env) (y.ev env) with
  | none=>simp[hb] at h
  | some v=>simp only[hb,Option.map_some,Option.some.injEq,Prod.mk.injEq] at h;obtain⟨rfl,rfl⟩:=h;simp[req,hb]
 case h_10=>
  split at h
  ·rename_i ha;simp only[Option.some.injEq,Prod.mk.injEq] at h;obtain⟨rfl,rfl⟩:=h;simp only[req,ha]
  ·rename_i ha;simp only[Option.some.injEq,Prod.mk.injEq] at h;obtain⟨rfl,rfl⟩:=h;simp only[req,ha]
  ·cases h
 case h_11=>
  split at h
  ·rename_i ha;simp only[Option.some.injEq,Prod.mk.injEq] at h;obtain⟨rfl,rfl⟩:=h;simp only[req,ha]
  ·cases h
 case h_12=>
  split at h
  ·rename_i ha;simp only[Option.some.injEq,Prod.mk.injEq] at h;obtain⟨rfl,rfl⟩:=h;simp only[req,ha]
  ·rename_i ha;simp only[Option.some.injEq,Prod.mk.injEq] at h;obtain⟨rfl,rfl⟩:=h;simp only[req,ha];rw[if_pos hc]
  ·cases h
 case h_13=>
  split at h
  ·rename_i ha;simp only[Option.some.injEq,Prod.mk.injEq] at h;obtain⟨rfl,rfl⟩:=h;simp only[req,ha];rw[if_pos hc]
  ·cases h
 case h_14=>
  split at h
  ·rename_i ha hb;simp only[Option.some.injEq,Prod.mk.injEq] at h;obtain⟨rfl,rfl⟩:=h;simp only[req,ha,hb];rw[if_pos hc]
  ·rename_i ha hb;simp only[Option.some.injEq,Prod.mk.injEq] at h;obtain⟨rfl,rfl⟩:=h;simp only[req,ha,hb];rw[if_pos hc]
  ·cases h
 case h_15=>
  split at h
  ·rename_i ha hb;simp only[Option.some.injEq,Prod.mk.injEq] at h;obtain⟨rfl,rfl⟩:=h;simp only[req,ha,hb];rw[if_pos hc]
  ·rename_i ha hb;simp only[Option.some.injEq,Prod.mk.injEq] at h;obtain⟨rfl,rfl⟩:=h;simp only[req,ha,hb];rw[if_pos hc]
  ·cases h
 case h_16=>
  split at h
  ·rename_i ha hb;simp only[Option.some.injEq,Prod.mk.injEq] at h;obtain⟨rfl,rfl⟩:=h;simp only[req,ha,hb];rw[if_pos hc]
  ·cases h
 case h_17=>
  split at h
  ·rename_i ha hb;simp only[Option.some.injEq,Prod.mk.injEq] at h;obtain⟨rfl,rfl⟩:=h;simp only[req,ha,hb];rw[if_pos hc]
  ·cases h
 case h_18=>
  split at h
  ·rename_i l ha hl
   split at h
   ·rename_i m hm
    simp only[Option.some.injEq,Prod.mk.injEq] at h;obtain⟨rfl,rfl⟩:=h
    simp only[req,qh6,ha,hl,hm];rw[if_pos hc];rfl
   ·cases h
  ·rename_i xs l ha hl
   split at h
   ·rename_i m hm
    simp only[Option.some.injEq,Prod.mk.injEq] at h;obtain⟨rfl,rfl⟩:=h
    simp only[req,qh6,ha,hl,hm];rw[if_pos hc];rfl
   ·cases h
  ·rename_i ha hl
   split at h
   ·rename_i m hm
    simp only[Option.some.injEq,Prod.mk.injEq] at h;obtain⟨rfl,rfl⟩:=h
    simp only[req,qh6,ha,hl,hm];rw[if_pos hc]
    split<;>rfl
   ·cases h
  ·cases h
 case h_19=>
  rename_i x lo hi
  cases hr:req env (.sslice x lo hi) with
  | none=>simp[hr] at h
  | some r=>simp only[hr,Option.map_some,Option.some.injEq,Prod.mk.injEq] at h;obtain⟨rfl,rfl⟩:=h;rfl
 case h_20=>simp only[Option.some.injEq,Prod.mk.injEq] at h;obtain⟨rfl,rfl⟩:=h;rfl
 case h_21=>
  split at h
  ·rename_i ha;simp only[Option.some.injEq,Prod.mk.injEq] at h;obtain⟨rfl,rfl⟩:=h;simp only[req,ha];rw[if_pos hc]
  ·cases h
 case h_22=>
  split at h
  ·rename_i ha;simp only[Option.some.injEq,Prod.mk.injEq] at h;obtain⟨rfl,rfl⟩:=h;simp only[req,ha]
  ·rename_i ha;simp only[Option.some.injEq,Prod.mk.injEq] at h;obtain⟨rfl,rfl⟩:=h;simp only[req,ha]
  ·rename_i ha;simp only[Option.some.injEq,Prod.mk.injEq] at h;obtain⟨rfl,rfl⟩:=h;simp only[req,ha]
  ·cases h
 case h_23=>
  rename_i x
  cases hr:lenT (x.ev env) with
  | none=>simp[hr] at h
  | some r=>simp only[hr,Option.map_some,Option.some.injEq,Prod.mk.injEq] at h;obtain⟨rfl,rfl⟩:=h;simp[req,hr]
 case h_24=>
  split at h
  ·rename_i ha;simp only[Option.some.injEq,Prod.mk.injEq] at h;obtain⟨rfl,rfl⟩:=h;simp only[req,ha]
  ·cases h
 case h_25=>simp only[Option.some.injEq,Prod.mk.injEq] at h;obtain⟨rfl,rfl⟩:=h;rfl
 case h_26=>
  split at h
  ·rename_i ha hb;simp only[Option.some.injEq,Prod.mk.injEq] at h;obtain⟨rfl,rfl⟩:=h;simp only[req,appT,ha,hb]
  ·rename_i ha hb;simp only[Option.some.injEq,Prod.mk.injEq] at h;obtain⟨rfl,rfl⟩:=h;simp only[req,appT,ha,hb]
  ·rename_i ha hb;simp only[Option.some.injEq,Prod.mk.injEq] at h;obtain⟨rfl,rfl⟩:=h;simp only[req,appT,ha,hb]
  ·rename_i ha hb;simp only[Option.some.injEq,Prod.mk.injEq] at h;obtain⟨rfl,rfl⟩:=h;simp only[req,appT,ha,hb]
  ·rename_i ha hb;simp only[Option.some.injEq,Prod.mk.injEq] at h;obtain⟨rfl,rfl⟩:=h;simp only[req,appT,ha,hb]
  ·rename_i ys _ ha hb
   simp only[Option.some.injEq,Prod.mk.injEq] at h;obtain⟨rfl,rfl⟩:=h;simp only[req,appT,ha,hb]
   cases ys with
   | nil=>exact absurd rfl hc.1
   | cons y r=>simp only[];rw[if_pos hc.2]
  ·rename_i ys _ ha hb
   simp only[Option.some.injEq,Prod.mk.injEq] at h;obtain⟨rfl,rfl⟩:=h;simp only[req,appT,ha,hb]
   cases ys with
   | nil=>exact absurd rfl hc.1
   | cons y r=>simp only[];rw[if_pos hc.2]
  ·rename_i ys _ ha hb
   simp only[Option.some.injEq,Prod.mk.injEq] at h;obtain⟨rfl,rfl⟩:=h;simp only[req,appT,ha,hb]
   cases ys with
   | nil=>exact absurd rfl hc.1
   | cons y r=>simp only[];rw[if_pos hc.2]
  ·rename_i ha hb;simp only[Option.some.injEq,Prod.mk.injEq] at h;obtain⟨rfl,rfl⟩:=h;simp only[req,appT,ha,hb];rw[if_pos hc]
  ·rename_i ha hb;simp only[Option.some.injEq,Prod.mk.injEq] at h;obtain⟨rfl,rfl⟩:=h;simp only[req,appT,ha,hb];rw[if_pos hc]
  ·cases h
 case h_27=>
  split at h
  ·rename_i ha hb;simp only[Option.some.injEq,Prod.mk.injEq] at h;obtain⟨rfl,rfl⟩:=h;simp only[req,ha,hb];rw[if_pos hc]
  ·cases h
 case h_28=>
  split at h
  ·rename_i ha hb;simp only[Option.some.injEq,Prod.mk.injEq] at h;obtain⟨rfl,rfl⟩:=h;simp only[req,ha,hb]
  ·cases h
 case h_29=>
  split at h
  ·rename_i j ha hb
   simp only[Option.some.injEq,Prod.mk.injEq] at h;obtain⟨rfl,rfl⟩:=h;simp only[req,ha,hb]
   have hj:0≤j∧j≤1000000000:=⟨by omega,hc.2⟩
   have hne:j≠0:=by omega
   rw[if_pos hj,if_neg hne]
  ·cases h
 case h_30=>
  rename_i x
  cases hr:req env (.emp x) with
  | none=>simp[hr] at h
  | some r=>simp only[hr,Option.map_some,Option.some.injEq,Prod.mk.injEq] at h;obtain⟨rfl,rfl⟩:=h;rfl
 case h_31=>
  rename_i x
  cases hr:req env (.cap x) with
  | none=>simp[hr] at h
  | some r=>simp only[hr,Option.map_some,Option.some.injEq,Prod.mk.injEq] at h;obtain⟨rfl,rfl⟩:=h;rfl
 case h_32=>
  rename_i x
  cases hr:req env (.b2s x) with
  | none=>simp[hr] at h
  | some r=>simp only[hr,Option.map_some,Option.some.injEq,Prod.mk.injEq] at h;obtain⟨rfl,rfl⟩:=h;rfl
 case h_33=>simp only[Option.some.injEq,Prod.mk.injEq] at h;obtain⟨rfl,rfl⟩:=h;rfl
 case h_34=>
  split at h
  ·rename_i ha;simp only[Option.some.injEq,Prod.mk.injEq] at h;obtain⟨rfl,rfl⟩:=h;simp only[req,ha];rw[if_pos hc]
  ·cases h
 case h_35=>
  split at h
  ·rename_i ha;simp only[Option.some.injEq,Prod.mk.injEq] at h;obtain⟨rfl,rfl⟩:=h;simp only[req,ha];rw[if_pos hc]
  ·cases h
 case h_36=>
  split at h
  ·rename_i ha;simp only[Option.some.injEq,Prod.mk.injEq] at h;obtain⟨rfl,rfl⟩:=h;simp only[req,ha];rw[if_pos hc]
  ·rename_i ha;simp only[Option.some.injEq,Prod.mk.injEq] at h;obtain⟨rfl,rfl⟩:=h;simp only[req,ha]
  ·cases h
 case h_37=>
  split at h
  ·rename_i ha hb hd he;simp only[Option.some.injEq,Prod.mk.injEq] at h;obtain⟨rfl,rfl⟩:=h;simp only[req,ha,hb,hd,he];rw[if_pos hc]
  ·cases h
 case h_38=>cases h
def runC (fresh:Nat)(H:Heap):Req→Option (Prop×T×List Nat×List (Nat×Slot))
 | .val v=>some (True,v,[],[])
 | .new ty cs ptr e n=>match H fresh with
  | .free=>some (True,if ptr then .ref fresh cs.length 0 else .sl fresh cs.length e 0 n,[],[(fresh,.live ⟨ty,cs⟩)])
  | _=>none
 | .load e id tot off=>match H id with
  | .live b=>some (b.cs.length=tot∧off+esz e≤tot,mkEl e ((b.cs.drop off).take (esz e)),[id],[])
  | _=>none
 | .store id tot off cs=>match H id with
  | .live b=>some (b.cs.length=tot∧off+cs.length≤tot,.tup [],[id],[(id,.live ⟨b.ty,splice b.cs off cs⟩)])
  | _=>none
 | .grow ty id tot e n m cs=>match H id with
  | .live b=>some (b.ty=ty∧b.cs.length=tot∧tot=n*esz e∧cs.length=m*esz e∧0<m,.sl id (tot+cs.length) e 0 (n+m),[id],[(id,.live ⟨ty,b.cs++cs⟩)])
  | _=>none
 | .growOf ty id tot e n id' tot' off m=>match H id,H id' with
  | .live b,.live b'=>some (b.ty=ty∧b.cs.length=tot∧tot=n*esz e∧b'.cs.length=tot'∧off+m*esz e≤tot'∧0<m,.sl id (tot+m*esz e) e 0 (n+m),[id,id'],[(id,.live ⟨ty,b.cs++(b'.cs.drop off).take (m*esz e)⟩)])
  | _,_=>none
 | .newOf ty e id' tot' off m=>match H fresh,H id' with
  | .free,.live b'=>some (b'.cs.length=tot'∧off+m*esz e≤tot'∧0<m,.sl fresh (m*esz e) e 0 m,[id'],[(fresh,.live ⟨ty,(b'.cs.drop off).take (m*esz e)⟩)])
  | _,_=>none
 | .bytes id tot off n=>((Req.bytes id tot off n).run fresh H).map fun r=>(True,r)
 | .newMap=>match H fresh with
  | .free=>some (True,.mp fresh,[],[(fresh,.map [])])
  | _=>none
 | .look id k z ok=>((Req.look id k z ok).run fresh H).map fun r=>(True,r)
 | .mset id k v=>((Req.mset id k v).run fresh H).map fun r=>(True,r)
theorem qk3 {fresh:Nat}{H:Heap}{q:Req}{c:Prop}{v:T}{F:List Nat}{U:List (Nat×Slot)}(h:runC fresh H q=some (c,v,F,U))(hc:c):q.run fresh H=some (v,F,U):=by
 cases q<;>simp only[runC] at h
 case val=>simp only[Option.some.injEq,Prod.mk.injEq] at h;obtain⟨rfl,rfl,rfl,rfl⟩:=h;rfl
 case new=>
  split at h
  ·rename_i hf;simp only[Option.some.injEq,Prod.mk.injEq] at h;obtain⟨rfl,rfl,rfl,rfl⟩:=h;simp only[Req.run,hf]
  ·cases h
 case growOf=>
  split at h
  ·rename_i h1 h2;simp only[Option.some.injEq,Prod.mk.injEq] at h;obtain⟨rfl,rfl,rfl,rfl⟩:=h;simp only[Req.run,h1,h2];rw[if_pos hc]
  ·cases h
 case newOf=>
  split at h
  ·rename_i h1 h2;simp only[Option.some.injEq,Prod.mk.injEq] at h;obtain⟨rfl,rfl,rfl,rfl⟩:=h;simp only[Req.run,h1,h2];rw[if_pos hc]
  ·cases h
 case newMap=>
  split at h
  ·rename_i hf;simp only[Option.some.injEq,Prod.mk.injEq] at h;obtain⟨rfl,rfl,rfl,rfl⟩:=h;simp only[Req.run,hf]
  ·cases h
 case bytes id tot off n=>
  cases hr:(Req.bytes id tot off n).run fresh H with
  | none=>simp[hr] at h
  | some r=>simp only[hr,Option.map_some,Option.some.injEq,Prod.mk.injEq] at h;obtain⟨rfl,rfl⟩:=h;rfl
 case look id k z ok=>
  cases hr:(Req.look id k z ok).run fresh H with
  | none=>simp[hr] at h
  | some r=>simp only[hr,Option.map_some,Option.some.injEq,Prod.mk.injEq] at h;obtain⟨rfl,rfl⟩:=h;rfl
 case mset id k x=>
  cases hr:(Req.mset id k x).run fresh H with
  | none=>simp[hr] at h
  | some r=>simp only[hr,Option.map_some,Option.some.injEq,Prod.mk.injEq] at h;obtain⟨rfl,rfl⟩:=h;rfl
 all_goals
  split at h
  ·rename_i h1;simp only[Option.some.injEq,Prod.mk.injEq] at h;obtain⟨rfl,rfl,rfl,rfl⟩:=h;simp only[Req.run,h1];rw[if_pos hc]
  ·cases h
section
variable {P:Program} {base j:Nat} {d:Option Nat} {io:IOp} {g:Option (Nat×Bool)} {rs:List IRow} {env:Nat→T} {H:Heap} {log:List LogE} {K:(Nat→T)→Heap→List LogE→Prop}
theorem qsD {c:Prop}{v:T}(hw:qbP env g=some true)(hq:reqC env io=some (c,.val v))(hc:c)(h:RunR P base (j+1) rs (putE env d v) H log K):RunR P base j (⟨d,.op io,g⟩::rs) env H log K:=
 ⟨v,[],[],.inr ⟨hw,.inl ⟨_,qfU hq hc,rfl⟩⟩,h⟩
theorem qsC {c c':Prop}{q:Req}{v:T}{F:List Nat}{U:List (Nat×Slot)}(hw:qbP env g=some true)(hq:reqC env io=some (c,q))(hc:c)(hv:runC (base+j) H q=some (c',v,F,U))(hc':c')(h:RunR P base (j+1) rs (putE env d v) (H.upd U) (qbw j F U log) K):RunR P base j (⟨d,.op io,g⟩::rs) env H log K:=
 ⟨v,F,U,.inr ⟨hw,.inl ⟨q,qfU hq hc,qk3 hv hc'⟩⟩,h⟩
theorem qnj {o:IAct}(hw:qbP env g=some false)(h:RunR P base (j+1) rs (putE env d (.tup [])) H log K):RunR P base j (⟨d,o,g⟩::rs) env H log K:=
 ⟨.tup [],[],[],.inl ⟨hw,rfl,rfl⟩,h⟩
theorem quz {t:Nat}{want b:Bool}{c:Prop}{v:T}(hb:env t=.bool b)(hq:(b==want)=true→reqC env io=some (c,.val v))(hc:(b==want)=true→c)(h:RunR P base (j+1) rs (putE env d (if (b==want)=true then v else .tup [])) H log K):RunR P base j (⟨d,.op io,some (t,want)⟩::rs) env H log K:=by
 refine⟨if (b==want)=true then v else .tup [],[],[],?_,h⟩
 cases hbw:b==want with
 | true=>exact .inr ⟨by simp[qbP,hb,hbw],.inl ⟨_,qfU (hq hbw) (hc hbw),rfl⟩⟩
 | false=>exact .inl ⟨by simp[qbP,hb,hbw],rfl,rfl⟩
theorem qsB {t:Nat}{want b:Bool}{c c':Prop}{q:Req}{v:T}{F:List Nat}(hb:env t=.bool b)(hq:(b==want)=true→reqC env io=some (c,q))(hc:(b==want)=true→c)(hv:(b==want)=true→runC (base+j) H q=some (c',v,F,[]))(hc':(b==want)=true→c')(h:RunR P base (j+1) rs (putE env d (if (b==want)=true then v else .tup [])) H (qbw j F [] log) K):RunR P base j (⟨d,.op io,some (t,want)⟩::rs) env H log K:=by
 refine⟨if (b==want)=true then v else .tup [],F,[],?_,h⟩
 cases hbw:b==want with
 | true=>exact .inr ⟨by simp[qbP,hb,hbw],.inl ⟨_,qfU (hq hbw) (hc hbw),qk3 (hv hbw) (hc' hbw)⟩⟩
 | false=>exact .inl ⟨by simp[qbP,hb,hbw],rfl,rfl⟩
theorem qp8 {b:Bool}{x y z:T}:(if b=true then (if (b==true)=true then x else y) else z)=if b=true then x else z:=by cases b<;>rfl
theorem qp7 {b:Bool}{x y z:T}:(if b=true then x else (if (b==false)=true then y else z))=if b=true then x else y:=by cases b<;>rfl
theorem qpt {b c:Bool}:(if b=true then T.bool c else T.bool false)=T.bool (b&&c):=by cases b<;>rfl
theorem qt9 {b c:Bool}:(if b=true then T.bool true else T.bool c)=T.bool (b || c):=by cases b<;>rfl
theorem qdL {f:FuncId}{args:List Opd}{xs:List T}{v:T}(hw:qbP env g=some true)(ha:args.map (·.ev env)=xs)(hc:TC P f xs (fun _=>.free) v (fun _=>.free))(hf:froL xs=true)(h:RunR P base (j+1) rs (putE env d v) H log K):RunR P base j (⟨d,.call (.call f args),g⟩::rs) env H log K:=by
 refine⟨v,[],[],.inr ⟨hw,?_⟩,h⟩
 show qde P f (args.map (·.ev env)) H v [] []
 rw[ha]
 exact qde.pure hc hf
theorem qe3 {f:FuncId}{x:Opd}{args:List Opd}{caps xs:List T}{v:T}(hw:qbP env g=some true)(hx:x.ev env=.fn f caps)(ha:args.map (·.ev env)++caps=xs)(hc:TC P f xs (fun _=>.free) v (fun _=>.free))(hf:froL xs=true)(h:RunR P base (j+1) rs (putE env d v) H log K):RunR P base j (⟨d,.call (.callv x args),g⟩::rs) env H log K:=by
 refine⟨v,[],[],.inr ⟨hw,f,caps,hx,?_⟩,h⟩
 rw[ha]
 exact qde.pure hc hf
end
section
variable {P:Program} {N:Nat} {c:ICode} {env:Nat→T} {H:Heap} {Q:IExit→(Nat→T)→Heap→Prop}
theorem qlz (env:Nat→T)(t:Nat):∀ss:List Nat,ofL (ss.map fun s=>(s,env s)) t=env t∨ofL (ss.map fun s=>(s,env s)) t=.undef
 | []=>.inr rfl
 | s::ss=>by
  simp only[List.map_cons,qdp]
  by_cases e:t=s
  ·subst e;left;simp
  ·rw[if_neg e];exact qlz env t ss
theorem qaa {c':ICode}(e:c=c')(h:W P N c' env H (thn (fun env' H'=>WL P N c env' H' Q) Q)):WL P N c env H Q:=qrn (by rw[e] at *;exact h)
end
inductive Frz (H:Heap):T→T→Prop
 | same {x:T} (h:x.fro=true):Frz H x x
 | nil:Frz H .nil (.list [])
 | agg {cs cs':List T} (hl:cs.length=cs'.length) (h1:Ones cs') (h:∀i,i<cs.length→Frz H (cs.getD i .undef) (cs'.getD i .undef)):Frz H (.agg cs) (.agg cs')
 | tup {cs cs':List T} (hl:cs.length=cs'.length) (h:∀i,i<cs.length→Frz H (cs.getD i .undef) (cs'.getD i .undef)):Frz H (.tup cs) (.tup cs')
 | fn {f:FuncId} {cs cs':List T} (hl:cs.length=cs'.length) (h:∀i,i<cs.length→Frz H (cs.getD i .undef) (cs'.getD i .undef)):Frz H (.fn f cs) (.fn f cs')
 | sl {id tot e off n:Nat} {b:Blk} {xs:List T} (hb:H id=.live b) (ht:b.cs.length=tot) (hf:off+n*esz e≤tot) (hn:xs.length=n) (hs:qc3 (esz e) xs) (h1:Ones (flat xs))
  (h:∀k,k<n*esz e→Frz H (b.cs.getD (off+k) .undef) ((flat xs).getD k .undef)):Frz H (.sl id tot e off n) (.list xs)
 | ref {id tot off:Nat} {b:Blk} {cs:List T} (hb:H id=.live b) (ht:b.cs.length=tot) (hf:off+cs.length≤tot) (h1:Ones cs)
  (h:∀k,k<cs.length→Frz H (b.cs.getD (off+k) .undef) (cs.getD k .undef)):Frz H (.ref id tot off) (.ptr cs)
section
variable {w:World} {A:Sta} {μ:Nat→Nat} {H:Heap} {v:Value} {x y:T}
def qr9 (A:Sta)(μ:Nat→Nat)(H:Heap):Sta:=fun b o=>A b o∨∃i,(H i).owns=true∧μ i=b
theorem Frz.rep (hS:Sim w A μ H)(h:Frz H x y):∀v,Rep w A μ H v x→Rep w (qr9 A μ H) μ (fun _=>.free) v y:=by
 induction h with
 | same h=>exact fun v hr=>(hr.sub (H':=fun _=>.free) h (fun i hi=>by cases hi)).more fun b o ha=>.inl ha
 | nil=>intro v hr;cases hr;exact .lnil
 | agg hl h1 h ih=>intro v hr;cases hr with | agg us _ hn _ hR=>exact .agg _ _ (hn.trans hl) h1 fun i hi=>ih i (by omega) _ (hR i (by omega))
 | tup hl h ih=>intro v hr;cases hr with | tup us _ hn hR=>exact .tup _ _ (hn.trans hl) fun i hi=>ih i (by omega) _ (hR i (by omega))
 | fn hl h ih=>intro v hr;cases hr with | fn _ us _ hn hR=>exact .fn _ _ _ (hn.trans hl) fun i hi=>ih i (by omega) _ (hR i (by omega))
 | @sl id tot e off n b xs hb ht hf hn hs h1 h ih=>
  intro v hr
  cases hr with
  | slS p c _ _ _ _ _ hnc hst=>
   rcases hst with hd | ⟨b',hb',hl'⟩
   ·rw[hb] at hd;cases hd
   ·rw[hb] at hb';injection hb' with hb';subst hb';omega
  | sl _ _ _ _ _ c b0 cur hb0 ht0 hcur hnc hmx hcc hff=>
   rw[hb] at hb0
   injection hb0 with hb0
   subst hb0
   obtain⟨cur',g1,g2,g3,g4⟩:=hS.blk id b hb
   rw[hcur] at g1
   injection g1 with g1
   injection g1 with g1
   subst g1
   have hfl:=qcE hs
   subst hn
   refine .list _ _ (esz e) xs (fun q=>cur.getD (off+q) Go.undef) hs hnc h1 (fun q hq=>.inr ⟨id,by simp[hb,Slot.owns],rfl⟩) (fun q hq=>?_) (fun q hq=>ih q (by omega) _ (g4 _ (by omega)))
   rw[qdd]
   have:off+q<cur.size:=by omega
   simp[World.cell?,hcur,this]
 | @ref id tot off b cs hb ht hf h1 h ih=>
  intro v hr
  cases hr with
  | refS p _ _ _ hst=>
   rcases hst with hd | ⟨b',hb',hl'⟩
   ·rw[hb] at hd;cases hd
   ·rw[hb] at hb';injection hb' with hb';subst hb';omega
  | ref _ _ _ b0 hb0 ht0=>
   obtain⟨cur,g1,g2,g3,g4⟩:=hS.blk id b hb
   refine .ptr _ cs (fun q=>cur.getD (off+q) Go.undef) h1 (fun q hq=>.inr ⟨id,by simp[hb,Slot.owns],rfl⟩) (fun q hq=>?_) (fun q hq=>ih q hq _ (g4 _ (by omega)))
   rw[qdd]
   have:off+q<cur.size:=by omega
   simp[World.cell?,g1,this]
end
theorem TC.pure {P:Program}{f:FuncId}{args:List T}{r r':T}{H':Heap}(h:TC P f args (fun _=>.free) r H')(hz:Frz H' r r'):TC P f args (fun _=>.free) r' (fun _=>.free):=by
 refine⟨h.1,fun w A μ vs hS hR=>(h.2 w A μ vs hS hR).mono ?_⟩
 rintro e w' ⟨v,A',μ',rfl,h1,h2,h3⟩
 refine⟨v,qr9 A' μ' H',μ',rfl,hz.rep h2 v h1,⟨fun i j hi=>?_,fun i b hb=>?_,fun i es hb=>?_,fun i hi=>?_,fun b o ha=>?_,h2.glb.keep fun b o ha hb=>⟨.inl ha,rfl⟩⟩,⟨h3.os,h3.tape,h3.output,h3.size,fun b hb hn=>⟨(h3.un b hb hn).1,fun i hi=>?_⟩,fun b o ha hb=>?_,fun b o ha=>?_,fun i b hb=>?_,fun i es hb=>?_,fun i hd=>?_⟩⟩
 ·cases hi
 ·cases hb
 ·cases hb
 ·cases hi
 ·rcases ha with ha | ⟨i,hi,rfl⟩
  ·exact h2.sta b o ha
  ·exact h2.lt hi
 ·cases hi
 ·exact⟨.inl (h3.st b o ha hb).1,(h3.st b o ha hb).2⟩
 ·rcases ha with ha | ⟨i,hi,hb⟩
  ·rcases h3.an b o ha with h | h | ⟨k,hk,_⟩
   ·exact .inl h
   ·exact .inr (.inl h)
   ·cases hk
  ·rcases Nat.lt_or_ge b w.heap.size with hlt | hge
   ·exact absurd hb ((h3.un b hlt fun k hk=>by cases hk).2 i hi)
   ·exact .inr (.inl hge)
 ·cases hb
 ·cases hb
 ·cases hd
abbrev TP (P:Program)(f:FuncId)(args:List T)(r:T):Prop:=TC P f args (fun _=>.free) r (fun _=>.free)
theorem TP_of {P:Program}{f:FuncId}{fn:Func}{code:Code}{ic:ICode}{rs:List (Nat×Option Nat)}{args:List T}{r:T}(hf:P.funcs[f]? = some fn)(hb:fn.body=some code)(hc:qaQ P fn.ntmps code=some ic)(hent:Enters P f)
 (hres:qc5 P fn.results.toList=some rs) (hn:args.length≤fn.ntmps) (hw:W P fn.ntmps ic (argE args) (hpL []) fun e env' H'=>(e=.ret∨e=.normal)∧∃x,resT env' H' rs=some x∧Frz H' x r):TP P f args r:=by
 obtain⟨e,env',H',h1,h2,x,h3,h4⟩:=hw
 exact TC.pure (TC_of (H':=H') hf hb hc hent hres hn ⟨e,env',H',h1,h2,h3,rfl⟩) h4
def argL:Nat→List T→List (Nat×T)
 | _,[]=>[]
 | k,x::xs=>(k,x)::argL (k+1) xs
theorem qoC:∀(args:List T) (k t:Nat),(t<k→ofL (argL k args) t=.undef)∧(k≤t→ofL (argL k args) t=args.getD (t - k) (.tup [])∨ofL (argL k args) t=.undef)
 | [],k,t=>⟨fun _=>rfl,fun _=>.inr rfl⟩
 | x::xs,k,t=>by
  obtain⟨h1,h2⟩:=qoC xs (k+1) t
  refine⟨fun h=>?_,fun h=>?_⟩
  ·simp only[argL,qdp]
   rw[if_neg (by omega)]
   exact h1 (by omega)
  ·simp only[argL,qdp]
   by_cases e:t=k
   ·subst e;left;simp
   ·rw[if_neg e]
    rcases h2 (by omega) with h | h
    ·left
     rw[h,show t - k=(t - (k+1))+1 by omega]
     rfl
    ·exact .inr h
theorem qtg {P:Program}{N:Nat}{c:ICode}{args:List T}{H:Heap}{Q:IExit→(Nat→T)→Heap→Prop}(h:W P N c (ofL (argL 0 args)) H Q):W P N c (argE args) H Q:=
 W_mask (fun t=>by simpa [argE] using (qoC args 0 t).2 (Nat.zero_le _)) h
def Fin (d:Bool)(bm:List Nat)(e':Nat→T)(h':Heap):(Nat→T)→Heap→List LogE→Prop:=fun env H log=>(d=true→log.Pairwise (chkP bm))∧env=e'∧H=h'
theorem qni {P:Program}{base j:Nat}{d:Bool}{bm:List Nat}{env:Nat→T}{H:Heap}{log:List LogE}(h:d=true→log.Pairwise (chkP bm)):RunR P base j [] env H log (Fin d bm env H):=⟨h,rfl,rfl⟩
theorem qh2 {P:Program}{base:Nat}:∀(rows:List IRow) (j:Nat) (env:Nat→T) (H:Heap) (log:List LogE) (K K':(Nat→T)→Heap→List LogE→Prop),(∀a b c,K a b c→K' a b c)→RunR P base j rows env H log K→RunR P base j rows env H log K'
 | [],_,_,_,_,_,_,hK,h=>hK _ _ _ h
 | _::rs,_,_,_,_,_,_,hK,⟨v,F,U,h1,h2⟩=>⟨v,F,U,h1,qh2 rs _ _ _ _ _ _ hK h2⟩
theorem W_r {P:Program}{N:Nat}{rows:List IRow}{bm:List Nat}{d:Bool}{env e':Nat→T}{H h':Heap}{Q:IExit→(Nat→T)→Heap→Prop}{l:List (Nat×T)}(base:Nat)(ss:List Nat)(hm:P.follows .mixedOrders=true)
 (h:RunR P base 0 rows env H [] (Fin d bm e' h')) (hl:ss.map (fun s=>(s,e' s))=l) (k:Q .normal (ofL l) h'):W P N (.reg rows bm d) env H Q:=by
 obtain⟨e,env1,H1,h1,h2⟩:=W_reg (N:=N) (Q:=fun e env' H'=>e=.normal∧env'=e'∧H'=h') base hm (qh2 _ _ _ _ _ _ _ (fun a b c hh=>⟨hh.1,rfl,hh.2⟩) h)
 obtain⟨rfl,rfl,rfl⟩:=h2
 subst hl
 refine⟨.normal,_,_,fun code hc ro w A μ a he hS hN Q' hQ=>h1 code hc ro w A μ a he hS hN Q' fun a' w' A' μ' g1 g2 g3 g4 g5=>hQ a' w' A' μ' (fun t=>?_) g2 g3 g4 g5,k⟩
 rcases qlz env1 t ss with e | e
 ·rw[e];exact g1 t
 ·rw[e];exact .undef _
def FnOk (P:Program)(f:FuncId)(N:Nat)(rs:List (Nat×Option Nat))(ic:ICode):Prop:=
 ∃fn,P.funcs[f]? = some fn∧fn.ntmps=N∧fn.body.bind (qaQ P N)=some ic∧qc5 P fn.results.toList=some rs∧Enters P f
theorem qi2 {P:Program}{f:FuncId}{N:Nat}{ic:ICode}{rs:List (Nat×Option Nat)}{args:List T}{H H':Heap}{r:T}(h:FnOk P f N rs ic)(hn:args.length≤N)(hw:W P N ic (ofL (argL 0 args)) H fun e env' H''=>(e=.ret∨e=.normal)∧resT env' H'' rs=some r∧H''=H'):TC P f args H r H':=by
 obtain⟨fn,h1,rfl,h3,h4,h5⟩:=h
 cases hb:fn.body with
 | none=>simp[hb] at h3
 | some code=>exact TC_of h1 hb (by simpa [hb] using h3) h5 h4 hn (qtg hw)
theorem qag {P:Program}{f:FuncId}{N:Nat}{ic:ICode}{rs:List (Nat×Option Nat)}{args:List T}{r:T}(h:FnOk P f N rs ic)(hn:args.length≤N)(hw:W P N ic (ofL (argL 0 args)) (hpL []) fun e env' H'=>(e=.ret∨e=.normal)∧∃x,resT env' H' rs=some x∧Frz H' x r):TP P f args r:=by
 obtain⟨fn,h1,rfl,h3,h4,h5⟩:=h
 cases hb:fn.body with
 | none=>simp[hb] at h3
 | some code=>exact TP_of h1 hb (by simpa [hb] using h3) h5 h4 hn (qtg hw)
mutual
def T.scal:T→Bool
 | .bool _ | .int .. | .str _ | .nil | .nilp | .nilfn | .nilmp=>true
 | .agg cs=>qoj cs
 | .tup cs=>qoj cs
 | _=>false
def qoj:List T→Bool
 | []=>true
 | x::xs=>x.scal&&qoj xs
end
theorem qh3:∀ {xs:List T},qoj xs=true→∀i,i<xs.length→(xs.getD i .undef).scal=true
 | [],_,i,hi=>by cases hi
 | x::xs,h,0,_=>by simp only[qoj,Bool.and_eq_true] at h;exact h.1
 | x::xs,h,i+1,hi=>by
  simp only[qoj,Bool.and_eq_true] at h
  exact qh3 h.2 i (by simpa using hi)
def FrzL (H:Heap)(xs ys:List T):Prop:=xs.length=ys.length∧∀i,i<xs.length→Frz H (xs.getD i .undef) (ys.getD i .undef)
theorem FrzL.nil {H:Heap}:FrzL H [] []:=⟨rfl,fun i hi=>by cases hi⟩
theorem FrzL.cons {H:Heap}{x y:T}{xs ys:List T}(h:Frz H x y)(t:FrzL H xs ys):FrzL H (x::xs) (y::ys):=⟨by simp[t.1],fun i hi=>by
 cases i with
 | zero=>exact h
 | succ i=>exact t.2 i (by simpa using hi)⟩
section
variable {P:Program} {f:FuncId} {xs ys:List T} {r:T} {w:World} {A A':Sta} {μ μ':Nat→Nat} {H H':Heap} {v:Value} {x:T}
theorem Rep.scal (h:Rep w A μ H v x):x.scal=true→Rep w A' μ' H' v x:=by
 induction h with
 | bool b=>exact fun _=>.bool b
 | int k n=>exact fun _=>.int k n
 | str s=>exact fun _=>.str s
 | nil=>exact fun _=>.nil
 | nilp=>exact fun _=>.nilp
 | nilfn=>exact fun _=>.nilfn
 | nilmp=>exact fun _=>.nilmp
 | agg us cs hn h1 _ ih=>exact fun hs=>.agg us cs hn h1 fun i hi=>ih i hi (qh3 (by simpa [T.scal] using hs) i hi)
 | tup us cs hn _ ih=>exact fun hs=>.tup us cs hn fun i hi=>ih i hi (qh3 (by simpa [T.scal] using hs) i hi)
 | _=>intro hs;simp[T.scal] at hs
theorem Sim.kept (h:Sim w A μ H):Sim w (qr9 A μ H) μ (fun _=>.free):=
 ⟨(
  fun i j hi=>by cases hi),(fun i b hb=>by cases hb),(fun i es hb=>by cases hb),(fun i hi=>by cases hi),(fun b o ha=>by
  rcases ha with ha | ⟨i,hi,rfl⟩
  ·exact h.sta b o ha
  ·exact h.lt hi),h.glb.keep fun b o ha hb=>⟨.inl ha,rfl⟩⟩
theorem qj4 (h:Sim w A μ H){vs:Array Value}(hz:FrzL H xs ys)(hR:Reps w A μ H vs xs):Reps w (qr9 A μ H) μ (fun _=>.free) vs ys:=
 ⟨hR.1.trans hz.1,fun i hi=>(hz.2 i (by rw[hz.1];exact hi)).rep h _ (hR.2 i (by rw[hz.1];exact hi))⟩
theorem TP.lend (h:TP P f ys r)(hz:FrzL H xs ys)(hs:r.scal=true):TC P f xs H r H:=by
 refine⟨h.1,fun w A μ vs hS hR=>(h.2 w _ μ vs hS.kept (qj4 hS hz hR)).mono ?_⟩
 rintro e w' ⟨v,A',μ',rfl,h1,h2,h3⟩
 have hsame:∀b,b<w.heap.size→w'.heap[b]? = w.heap[b]?:=fun b hb=>(h3.un b hb fun i hi=>by cases hi).1
 have hT:Trans w A μ H w' A μ H:=⟨h3.os,h3.tape,h3.output,h3.size,fun b hb hn=>⟨hsame b hb,hn⟩,fun b o ha hb=>⟨ha,by simp[World.cell?,hsame b hb]⟩,fun b o ha=>.inl ha,
  fun i b hb=>.inr ⟨b,hb,.inr ⟨rfl,rfl,rfl,fun cur hc=>⟨cur,by rw[hsame _ (qbu hc)];exact hc,rfl⟩⟩⟩,fun i es hb=>.inr ⟨es,hb,rfl⟩,fun i hd=>hd⟩
 refine⟨v,A,μ,rfl,h1.scal hs,⟨hS.inj,fun i b hb=>?_,fun i es hb=>?_,hS.dis,(fun b o ha=>Nat.lt_of_lt_of_le (hS.sta b o ha) h3.size),hS.glb.trans hT⟩,hT⟩
 ·obtain⟨cur,a1,a2,a3,a4⟩:=hS.blk i b hb
  exact⟨cur,by rw[hsame _ (qbu a1)];exact a1,a2,a3,fun k hk=>(a4 k hk).trans hT⟩
 ·obtain⟨ents,cl,a1,a2,a3⟩:=hS.map i es hb
  exact⟨ents,cl,by rw[hsame _ (qbu a1)];exact a1,a2,fun k hk=>⟨(a3 k hk).1.trans hT,(a3 k hk).2.trans hT⟩⟩
theorem TP.give (h:TP P f ys r)(hz:FrzL H xs ys):TC P f xs H r (fun i=>match H i with | .free=>.free | _=>.dead):=by
 refine⟨h.1,fun w A μ vs hS hR=>(h.2 w _ μ vs hS.kept (qj4 hS hz hR)).mono ?_⟩
 rintro e w' ⟨v,A',μ',rfl,h1,h2,h3⟩
 have hno:∀i,((fun i=>match H i with | .free=>Slot.free | _=>.dead) i).owns=true→False:=fun i hi=>by
  simp only[] at hi
  split at hi<;>simp[Slot.owns] at hi
 refine⟨v,A',μ',rfl,h1.ext fun i hi=>absurd rfl hi,⟨fun i j hi=>(hno i hi).elim,fun i b hb=>?_,fun i es hb=>?_,fun i hi=>(hno i hi).elim,h2.sta,h2.glb⟩,
  ⟨h3.os,h3.tape,h3.output,h3.size,fun b hb hn=>⟨(h3.un b hb fun i hi=>by cases hi).1,fun i hi=>(hno i hi).elim⟩,fun b o ha hb=>h3.st b o (.inl ha) hb,fun b o ha=>?_,fun i b hb=>.inl (by simp[hb]),fun i es hb=>.inl (by simp[hb]),fun i hd=>by simp[hd]⟩⟩
 ·exact (hno i (by simp only[] at hb ⊢;rw[hb];rfl)).elim
 ·exact (hno i (by simp only[] at hb ⊢;rw[hb];rfl)).elim
 ·rcases h3.an b o ha with ha | ha | ⟨k,hk,_⟩
  ·rcases ha with ha | ⟨i,hi,hb⟩
   ·exact .inl ha
   ·exact .inr (.inr ⟨i,hi,hb⟩)
  ·exact .inr (.inl ha)
  ·cases hk
end
def qcK (H:Heap)(C:List (Nat×Slot)):Prop:=∀p∈C,p.2≠.free∧H p.1=hp C p.1∧(hp C p.1).cl (fun i=>decide (i∈C.map (·.1)))=true
theorem qde.of {P:Program}{f:FuncId}{xs:List T}{r:T}{H:Heap}{C U:List (Nat×Slot)}(h:TC P f xs (hp C) r ((hp C).upd U))(hC:qcK H C)(hU:∀p∈U,p.2≠.free)(hn:∀p∈U,p.1∉C.map (·.1)→H p.1=.free)
 (hcl:clL (fun i=>decide (i∈C.map (·.1))) xs=true):qde P f xs H r (C.map (·.1)) U:=⟨C,rfl,h,hU,hC,hn,hcl⟩
section
variable {P:Program} {base j:Nat} {d:Option Nat} {g:Option (Nat×Bool)} {rs:List IRow} {env:Nat→T} {H:Heap} {log:List LogE} {K:(Nat→T)→Heap→List LogE→Prop} {f:FuncId} {args:List Opd} {xs ys:List T} {v:T}
theorem qeF (C:List (Nat×Slot))(hw:qbP env g=some true)(ha:args.map (·.ev env)=xs)(hC:qcK H C)(hz:FrzL (hp C) xs ys)(hc:TP P f ys v)(hs:v.scal=true)(hcl:clL (fun i=>decide (i∈C.map (·.1))) xs=true)
 (h:RunR P base (j+1) rs (putE env d v) H (qbw j (C.map (·.1)) [] log) K):RunR P base j (⟨d,.call (.call f args),g⟩::rs) env H log K:=by
 refine⟨v,C.map (·.1),[],.inr ⟨hw,?_⟩,?_⟩
 ·show qde P f (args.map (·.ev env)) H v _ []
  rw[ha]
  exact qde.of (hc.lend hz hs) hC (fun p hp=>by cases hp) (fun p hp=>by cases hp) hcl
 ·exact h
theorem qqD (C U:List (Nat×Slot))(hw:qbP env g=some true)(ha:args.map (·.ev env)=xs)(hC:qcK H C)(hc:TC P f xs (hp C) v ((hp C).upd U))(hU:∀p∈U,p.2≠.free)(hn:∀p∈U,p.1∉C.map (·.1)→H p.1=.free)(hcl:clL (fun i=>decide (i∈C.map (·.1))) xs=true)
 (h:RunR P base (j+1) rs (putE env d v) (H.upd U) (qbw j (C.map (·.1)) U log) K):RunR P base j (⟨d,.call (.call f args),g⟩::rs) env H log K:=by
 refine⟨v,C.map (·.1),U,.inr ⟨hw,?_⟩,h⟩
 show qde P f (args.map (·.ev env)) H v _ _
 rw[ha]
 exact qde.of hc hC hU hn hcl
theorem qof (C U:List (Nat×Slot)){x:Opd}{caps:List T}(hw:qbP env g=some true)(hx:x.ev env=.fn f caps)(ha:args.map (·.ev env)++caps=xs)(hC:qcK H C)(hc:TC P f xs (hp C) v ((hp C).upd U))(hU:∀p∈U,p.2≠.free)(hn:∀p∈U,p.1∉C.map (·.1)→H p.1=.free)(hcl:clL (fun i=>decide (i∈C.map (·.1))) xs=true)
 (h:RunR P base (j+1) rs (putE env d v) (H.upd U) (qbw j (C.map (·.1)) U log) K):RunR P base j (⟨d,.call (.callv x args),g⟩::rs) env H log K:=by
 refine⟨v,C.map (·.1),U,.inr ⟨hw,f,caps,hx,?_⟩,h⟩
 rw[ha]
 exact qde.of hc hC hU hn hcl
end
theorem qti {D:Nat→Bool}:∀(l:List (Nat×T)),(l.all fun p=>p.2.cl D)=true→∀t,(ofL l t).cl D=true
 | [],_,_=>rfl
 | p::l,hl,t=>by
  simp only[List.all_cons,Bool.and_eq_true] at hl
  simp only[ofL]
  split
  ·exact hl.1
  ·exact qti l hl.2 t
def rsH (D:Nat→Bool)(H:Heap):Heap:=fun i=>if D i then H i else .free
def Gc (H:Heap)(Q:(Nat→T)→Heap→Prop):(Nat→T)→Heap→Prop:=fun env1 H1=>∃D:Nat→Bool,(∀i,H i≠.free→D i=true)∧(∀t,(env1 t).cl D=true)∧(∀i,D i=true→(H1 i).cl D=true)∧Q env1 (rsH D H1)
theorem W_gc {P:Program}{N:Nat}{c:ICode}{env:Nat→T}{H:Heap}{Q1:(Nat→T)→Heap→Prop}{Q:IExit→(Nat→T)→Heap→Prop}(h:W P N c env H (thn (Gc H Q1) Q)):W P N c env H (thn Q1 Q):=by
 obtain⟨e,env1,H1,h1,h2⟩:=h
 cases e with
 | exit i=>exact⟨_,env1,H1,h1,h2⟩
 | ret=>exact⟨_,env1,H1,h1,h2⟩
 | normal=>
  obtain⟨D,d1,d2,d3,d4⟩:=h2
  refine⟨.normal,env1,rsH D H1,fun code hc ro w A μ a he hS hN Q' hQ=>h1 code hc ro w A μ a he hS hN Q' fun a2 w2 A2 μ2 k1 k2 k3 k4 k5=>?_,d4⟩
  have hD:∀i,D i=true→rsH D H1 i=H1 i:=fun i hi=>by simp[rsH,hi]
  have hin:∀i,rsH D H1 i≠.free→D i=true∧rsH D H1 i=H1 i:=fun i hi=>by
   cases hd:D i with
   | true=>exact⟨rfl,by simp[rsH,hd]⟩
   | false=>simp[rsH,hd] at hi
  refine hQ a2 w2 A2 μ2 (fun t=>(k1 t).sub (d2 t) hD) ⟨fun i j hi hj hij=>?_,fun i b hb=>?_,fun i es hb=>?_,fun i hi=>?_,k2.sta,k2.glb⟩ ⟨k3.os,k3.tape,k3.output,k3.size,fun b hb hn=>⟨(k3.un b hb hn).1,fun i hi=>?_⟩,k3.st,k3.an,fun i b hb=>?_,fun i es hb=>?_,fun i hd=>?_⟩ k4 k5
  ·exact k2.inj i j (by rw[←(hin i (Slot.ne_free hi)).2];exact hi) (by rw[←(hin j (Slot.ne_free hj)).2];exact hj) hij
  ·obtain⟨hd,hs⟩:=hin i (by rw[hb];simp)
   rw[hs] at hb
   have hcl:=d3 i hd
   rw[hb] at hcl
   obtain⟨cur,a1,a2,a3,a4⟩:=k2.blk i b hb
   exact⟨cur,a1,a2,a3,fun k hk=>(a4 k hk).sub (qbk hcl k) hD⟩
  ·obtain⟨hd,hs⟩:=hin i (by rw[hb];simp)
   rw[hs] at hb
   have hcl:=d3 i hd
   rw[hb] at hcl
   obtain⟨ents,cl,a1,a2,a3⟩:=k2.map i es hb
   refine⟨ents,cl,a1,a2,fun k hk=>?_⟩
   have hm:=List.all_eq_true.1 hcl (es.getD k (.undef,.undef)) (by rw[List.getD_eq_getElem?_getD,List.getElem?_eq_getElem hk];exact List.getElem_mem hk)
   simp only[Bool.and_eq_true] at hm
   exact⟨(a3 k hk).1.sub hm.1 hD,(a3 k hk).2.sub hm.2 hD⟩
  ·exact k2.dis i (by rw[←(hin i (Slot.ne_free hi)).2];exact hi)
  ·exact (k3.un b hb hn).2 i (by rw[←(hin i (Slot.ne_free hi)).2];exact hi)
  ·rw[hD i (d1 i (by simp[hb]))];exact k3.own i b hb
  ·rw[hD i (d1 i (by simp[hb]))];exact k3.map i es hb
  ·rw[hD i (d1 i (by simp[hd]))];exact k3.dead i hd
def inL (ids:List Nat):Nat→Bool:=fun i=>ids.contains i
def qaf (ids:List Nat):List (Nat×Slot)→List (Nat×Slot)
 | []=>[]
 | p::l=>if inL ids p.1=true then p::qaf ids l else qaf ids l
theorem qfJ (ids:List Nat):∀l:List (Nat×Slot),rsH (inL ids) (hpL l)=hpL (qaf ids l)
 | []=>by funext i;simp only[rsH,hpL,qaf];split<;>rfl
 | (j,s)::l=>by
  have ih:=qfJ ids l
  funext i
  have hi:=congrFun ih i
  simp only[qaf,rsH] at hi ⊢
  cases hj:inL ids j with
  | true=>
   simp only[if_true,qaP]
   by_cases e:i=j
   ·subst e;simp[hj]
   ·simp only[e,if_false];exact hi
  | false=>
   simp only[Bool.false_eq_true,if_false]
   rw[←hi]
   simp only[qaP]
   by_cases e:i=j
   ·subst e;simp[hj]
   ·simp only[e,if_false]
theorem qay {l0:List (Nat×Slot)}{l:List (Nat×T)}{hl:List (Nat×Slot)}{Q:(Nat→T)→Heap→Prop}(ids:List Nat)(h0:(l0.all fun p=>inL ids p.1)=true)(he:(l.all fun p=>p.2.cl (inL ids))=true)(hb:((qaf ids hl).all fun p=>p.2.cl (inL ids))=true)(h:Q (ofL l) (hpL (qaf ids hl))):Gc (hpL l0) Q (ofL l) (hpL hl):=by
 refine⟨inL ids,fun i hi=>?_,qti l he,fun i hi=>?_,by rw[qfJ];exact h⟩
 ·induction l0 with
  | nil=>simp[hpL] at hi
  | cons p l0 ih=>
   simp only[List.all_cons,Bool.and_eq_true] at h0
   by_cases e:i=p.1
   ·rw[e];exact h0.1
   ·refine ih h0.2 ?_
    simpa [hpL,e] using hi
 ·have hk:=congrFun (qfJ ids hl) i
  simp only[rsH,hi,if_true] at hk
  rw[hk]
  generalize qaf ids hl=kl at hb
  clear hk h
  induction kl with
  | nil=>rfl
  | cons p kl ih=>
   simp only[List.all_cons,Bool.and_eq_true] at hb
   simp only[hpL]
   split
   ·exact hb.1
   ·exact ih hb.2
theorem TC.keep {P:Program}{f:FuncId}{args:List T}{H H1:Heap}{r:T}(h:TC P f args H r H1)(D:Nat→Bool)(d1:∀i,H i≠.free→D i=true)(d2:r.cl D=true)(d3:∀i,D i=true→(H1 i).cl D=true):TC P f args H r (rsH D H1):=by
 refine⟨h.1,fun w A μ vs hS hR=>(h.2 w A μ vs hS hR).mono ?_⟩
 rintro e w2 ⟨v,A2,μ2,rfl,k1,k2,k3⟩
 have hD:∀i,D i=true→rsH D H1 i=H1 i:=fun i hi=>by simp[rsH,hi]
 have hin:∀i,rsH D H1 i≠.free→D i=true∧rsH D H1 i=H1 i:=fun i hi=>by
  cases hd:D i with
  | true=>exact⟨rfl,by simp[rsH,hd]⟩
  | false=>simp[rsH,hd] at hi
 refine⟨v,A2,μ2,rfl,k1.sub d2 hD,⟨fun i j hi hj hij=>?_,fun i b hb=>?_,fun i es hb=>?_,fun i hi=>?_,k2.sta,k2.glb⟩,⟨k3.os,k3.tape,k3.output,k3.size,fun b hb hn=>⟨(k3.un b hb hn).1,fun i hi=>?_⟩,k3.st,k3.an,fun i b hb=>?_,fun i es hb=>?_,fun i hd=>?_⟩⟩
 ·exact k2.inj i j (by rw[←(hin i (Slot.ne_free hi)).2];exact hi) (by rw[←(hin j (Slot.ne_free hj)).2];exact hj) hij
 ·obtain⟨hd,hs⟩:=hin i (by rw[hb];simp)
  rw[hs] at hb
  have hcl:=d3 i hd
  rw[hb] at hcl
  obtain⟨cur,a1,a2,a3,a4⟩:=k2.blk i b hb
  exact⟨cur,a1,a2,a3,fun k hk=>(a4 k hk).sub (qbk hcl k) hD⟩
 ·obtain⟨hd,hs⟩:=hin i (by rw[hb];simp)
  rw[hs] at hb
  have hcl:=d3 i hd
  rw[hb] at hcl
  obtain⟨ents,cl,a1,a2,a3⟩:=k2.map i es hb
  refine⟨ents,cl,a1,a2,fun k hk=>?_⟩
  have hm:=List.all_eq_true.1 hcl (es.getD k (.undef,.undef)) (by rw[List.getD_eq_getElem?_getD,List.getElem?_eq_getElem hk];exact List.getElem_mem hk)
  simp only[Bool.and_eq_true] at hm
  exact⟨(a3 k hk).1.sub hm.1 hD,(a3 k hk).2.sub hm.2 hD⟩
 ·exact k2.dis i (by rw[←(hin i (Slot.ne_free hi)).2];exact hi)
 ·exact (k3.un b hb hn).2 i (by rw[←(hin i (Slot.ne_free hi)).2];exact hi)
 ·rw[hD i (d1 i (by simp[hb]))];exact k3.own i b hb
 ·rw[hD i (d1 i (by simp[hb]))];exact k3.map i es hb
 ·rw[hD i (d1 i (by simp[hd]))];exact k3.dead i hd
theorem qpu (ids:List Nat)(i:Nat):∀l:List (Nat×Slot),(l.all fun p=>inL ids p.1)=true→hpL l i≠.free→inL ids i=true
 | [],_,hi=>by simp[hpL] at hi
 | q::l,h0,hi=>by
  simp only[List.all_cons,Bool.and_eq_true] at h0
  by_cases e:i=q.1
  ·rw[e];exact h0.1
  ·exact qpu ids i l h0.2 (by simpa [hpL,e] using hi)
theorem qtl (D:Nat→Bool)(i:Nat):∀l:List (Nat×Slot),(l.all fun p=>p.2.cl D)=true→(hpL l i).cl D=true
 | [],_=>rfl
 | q::l,h0=>by
  simp only[List.all_cons,Bool.and_eq_true] at h0
  by_cases e:i=q.1
  ·simpa [hpL,e] using h0.1
  ·simpa [hpL,e] using qtl D i l h0.2
theorem ql8 {P:Program}{f:FuncId}{args:List T}{l0 hl:List (Nat×Slot)}{r:T}(ids:List Nat)(h:TC P f args (hpL l0) r (hpL hl))(h0:(l0.all fun p=>inL ids p.1)=true)(hr:r.cl (inL ids)=true)(hb:((qaf ids hl).all fun p=>p.2.cl (inL ids))=true):TC P f args (hpL l0) r (hpL (qaf ids hl)):=by
 rw[←qfJ]
 refine h.keep (inL ids) (fun i hi=>qpu ids i l0 h0 hi) hr (fun i hi=>?_)
 have hk:=congrFun (qfJ ids hl) i
 simp only[rsH,hi,if_true] at hk
 rw[hk]
 exact qtl _ i _ hb
inductive Fz (H:Heap) (D:Nat→Bool):T→T→Prop
 | same {x:T} (h:x.cl D=true):Fz H D x x
 | nil:Fz H D .nil (.list [])
 | agg {cs cs':List T} (hl:cs.length=cs'.length) (h1:Ones cs') (h:∀i,i<cs.length→Fz H D (cs.getD i .undef) (cs'.getD i .undef)):Fz H D (.agg cs) (.agg cs')
 | tup {cs cs':List T} (hl:cs.length=cs'.length) (h:∀i,i<cs.length→Fz H D (cs.getD i .undef) (cs'.getD i .undef)):Fz H D (.tup cs) (.tup cs')
 | fn {f:FuncId} {cs cs':List T} (hl:cs.length=cs'.length) (h:∀i,i<cs.length→Fz H D (cs.getD i .undef) (cs'.getD i .undef)):Fz H D (.fn f cs) (.fn f cs')
 | sl {id tot e off n:Nat} {b:Blk} {xs:List T} (hb:H id=.live b) (hd:D id=false) (ht:b.cs.length=tot) (hf:off+n*esz e≤tot) (hn:xs.length=n) (hs:qc3 (esz e) xs) (h1:Ones (flat xs))
  (h:∀k,k<n*esz e→Fz H D (b.cs.getD (off+k) .undef) ((flat xs).getD k .undef)):Fz H D (.sl id tot e off n) (.list xs)
 | ref {id tot off:Nat} {b:Blk} {cs:List T} (hb:H id=.live b) (hd:D id=false) (ht:b.cs.length=tot) (hf:off+cs.length≤tot) (h1:Ones cs)
  (h:∀k,k<cs.length→Fz H D (b.cs.getD (off+k) .undef) (cs.getD k .undef)):Fz H D (.ref id tot off) (.ptr cs)
theorem qcY {D:Nat→Bool}{xs:List T}(h:∀i,i<xs.length→(xs.getD i .undef).cl D=true):clL D xs=true:=by
 rw[qi9]
 intro x hx
 obtain⟨i,hi,rfl⟩:=List.getElem_of_mem hx
 have:=h i hi
 rw[List.getD_eq_getElem?_getD,List.getElem?_eq_getElem hi] at this
 exact this
theorem qlo {D:Nat→Bool}{x:T}(h:clL D x.cells=true):x.cl D=true:=by
 cases x<;>simp_all[T.cells,T.cl,clL]
theorem qhl {D:Nat→Bool}:∀ {xs:List T},clL D (flat xs)=true→clL D xs=true
 | [],_=>rfl
 | x::xs,h=>by
  rw[qbH,qab,Bool.and_eq_true] at h
  simp only[clL,Bool.and_eq_true]
  exact⟨qlo h.1,qhl h.2⟩
theorem Fz.cl {H:Heap}{D:Nat→Bool}{x y:T}(h:Fz H D x y):y.cl D=true:=by
 induction h with
 | same h=>exact h
 | nil=>rfl
 | agg hl h1 h ih=>simp only[T.cl];exact qcY fun i hi=>ih i (by omega)
 | tup hl h ih=>simp only[T.cl];exact qcY fun i hi=>ih i (by omega)
 | fn hl h ih=>simp only[T.cl];exact qcY fun i hi=>ih i (by omega)
 | sl hb hd ht hf hn hs h1 h ih=>
  simp only[T.cl]
  refine qhl (qcY fun i hi=>ih i ?_)
  rw[qcE hs,hn] at hi
  exact hi
 | ref hb hd ht hf h1 h ih=>simp only[T.cl];exact qcY ih
def frzH (D:Nat→Bool)(H:Heap):Heap:=fun i=>if D i then H i else match H i with | .free=>.free | _=>.dead
def qpy (A:Sta)(μ:Nat→Nat)(H:Heap)(D:Nat→Bool):Sta:=fun b o=>A b o∨∃i,D i=false∧(H i).owns=true∧μ i=b
section
variable {w:World} {A:Sta} {μ:Nat→Nat} {H H':Heap} {D:Nat→Bool} {v:Value} {x y:T}
theorem qpj {i:Nat}(h:D i=true):frzH D H i=H i:=by simp[frzH,h]
theorem qrW {i:Nat}(h:D i=false):(frzH D H i).owns=false:=by
 simp only[frzH,h,Bool.false_eq_true,if_false]
 cases H i<;>rfl
theorem Fz.rep (hS:Sim w A μ H)(h:Fz H D x y):∀v,Rep w A μ H v x→Rep w (qpy A μ H D) μ (frzH D H) v y:=by
 induction h with
 | same h=>exact fun v hr=>(hr.sub (H':=frzH D H) h (fun i hi=>qpj hi)).more fun b o ha=>.inl ha
 | nil=>intro v hr;cases hr;exact .lnil
 | agg hl h1 h ih=>intro v hr;cases hr with | agg us _ hn _ hR=>exact .agg _ _ (hn.trans hl) h1 fun i hi=>ih i (by omega) _ (hR i (by omega))
 | tup hl h ih=>intro v hr;cases hr with | tup us _ hn hR=>exact .tup _ _ (hn.trans hl) fun i hi=>ih i (by omega) _ (hR i (by omega))
 | fn hl h ih=>intro v hr;cases hr with | fn _ us _ hn hR=>exact .fn _ _ _ (hn.trans hl) fun i hi=>ih i (by omega) _ (hR i (by omega))
 | @sl id tot e off n b xs hb hd ht hf hn hs h1 h ih=>
  intro v hr
  cases hr with
  | slS p c _ _ _ _ _ hnc hst=>
   rcases hst with hd | ⟨b',hb',hl'⟩
   ·rw[hb] at hd;cases hd
   ·rw[hb] at hb';injection hb' with hb';subst hb';omega
  | sl _ _ _ _ _ c b0 cur hb0 ht0 hcur hnc hmx hcc hff=>
   rw[hb] at hb0
   injection hb0 with hb0
   subst hb0
   obtain⟨cur',g1,g2,g3,g4⟩:=hS.blk id b hb
   rw[hcur] at g1
   injection g1 with g1
   injection g1 with g1
   subst g1
   have hfl:=qcE hs
   subst hn
   refine .list _ _ (esz e) xs (fun q=>cur.getD (off+q) Go.undef) hs hnc h1 (fun q hq=>.inr ⟨id,hd,by simp[hb,Slot.owns],rfl⟩) (fun q hq=>?_) (fun q hq=>ih q (by omega) _ (g4 _ (by omega)))
   rw[qdd]
   have:off+q<cur.size:=by omega
   simp[World.cell?,hcur,this]
 | @ref id tot off b cs hb hd ht hf h1 h ih=>
  intro v hr
  cases hr with
  | refS p _ _ _ hst=>
   rcases hst with hd | ⟨b',hb',hl'⟩
   ·rw[hb] at hd;cases hd
   ·rw[hb] at hb';injection hb' with hb';subst hb';omega
  | ref _ _ _ b0 hb0 ht0=>
   obtain⟨cur,g1,g2,g3,g4⟩:=hS.blk id b hb
   refine .ptr _ cs (fun q=>cur.getD (off+q) Go.undef) h1 (fun q hq=>.inr ⟨id,hd,by simp[hb,Slot.owns],rfl⟩) (fun q hq=>?_) (fun q hq=>ih q hq _ (g4 _ (by omega)))
   rw[qdd]
   have:off+q<cur.size:=by omega
   simp[World.cell?,g1,this]
inductive SShape:Slot→Slot→Prop
 | free:SShape .free .free
 | dead:SShape .dead .dead
 | live {b b':Blk} (h1:b'.ty=b.ty) (h2:b'.cs.length=b.cs.length):SShape (.live b) (.live b')
 | map (es es':List (T×T)):SShape (.map es) (.map es')
theorem SShape.refl:∀s:Slot,SShape s s
 | .free=>.free
 | .dead=>.dead
 | .live b=>.live rfl rfl
 | .map es=>.map es es
theorem SShape.stale {id tot:Nat}(hs:qgN H id tot)(h:SShape (H id) (H' id)):qgN H' id tot:=by
 rcases hs with hd | ⟨b,hb,hl⟩
 ·rw[hd] at h;cases hh:H' id with
  | dead=>exact .inl hh
  | _=>rw[hh] at h;cases h
 ·rw[hb] at h;cases hh:H' id with
  | live b'=>rw[hh] at h;cases h with | live h1 h2=>exact .inr ⟨b',hh,by omega⟩
  | _=>rw[hh] at h;cases h
theorem SShape.get {b:Blk}{s:Slot}(h:SShape (.live b) s):∃b',s=.live b'∧b'.ty=b.ty∧b'.cs.length=b.cs.length:=by
 cases h with | live h1 h2=>exact⟨_,rfl,h1,h2⟩
theorem Rep.shape (h:Rep w A μ H v x)(hH:∀i,SShape (H i) (H' i)):Rep w A μ H' v x:=by
 induction h with
 | undef v=>exact .undef v
 | bool b=>exact .bool b
 | int k n=>exact .int k n
 | str s=>exact .str s
 | agg us cs hn h1 _ ih=>exact .agg us cs hn h1 ih
 | tup us vs hn _ ih=>exact .tup us vs hn ih
 | list a c k xs U hk hc h1 hA hU _ ih=>exact .list a c k xs U hk hc h1 hA hU ih
 | lnil=>exact .lnil
 | nil=>exact .nil
 | emp p=>exact .emp p
 | ptr a cs U h1 hA hU _ ih=>exact .ptr a cs U h1 hA hU ih
 | nilp=>exact .nilp
 | fn f us caps hn _ ih=>exact .fn f us caps hn ih
 | nilfn=>exact .nilfn
 | ref id tot off b hb ht=>
  have:=hH id
  rw[hb] at this
  obtain⟨b',e,h1,h2⟩:=this.get
  exact .ref id tot off b' e (by omega)
 | refS p id tot off hs=>exact .refS _ _ _ _ (SShape.stale hs (hH id))
 | sl id tot e off n c b cur hb ht hcur hn hm hc hf=>
  have:=hH id
  rw[hb] at this
  obtain⟨b',e',h1,h2⟩:=this.get
  exact .sl id tot e off n c b' cur e' (by omega) (by rw[h1];exact hcur) hn hm hc hf
 | slS p c id tot e off n hn hs=>exact .slS _ _ _ _ _ _ _ hn (SShape.stale hs (hH id))
 | mp id es he=>
  have:=hH id
  rw[he] at this
  cases hh:H' id with
  | map es'=>exact .mp id es' hh
  | _=>rw[hh] at this;cases this
 | mpS v id hd=>
  have:=hH id
  rw[hd] at this
  cases hh:H' id with
  | dead=>exact .mpS _ _ hh
  | _=>rw[hh] at this;cases this
 | nilmp=>exact .nilmp
inductive SlotFz (H:Heap) (D:Nat→Bool):Slot→Slot→Prop
 | free:SlotFz H D .free .free
 | dead:SlotFz H D .dead .dead
 | live {ty:TypeId} {cs cs':List T} (hl:cs.length=cs'.length) (h1:Ones cs') (h:∀i,i<cs.length→Fz H D (cs.getD i .undef) (cs'.getD i .undef)):SlotFz H D (.live ⟨ty,cs⟩) (.live ⟨ty,cs'⟩)
 | map {es:List (T×T)} (h:∀e∈es,e.1.cl D=true∧e.2.cl D=true):SlotFz H D (.map es) (.map es)
theorem SlotFz.shape {s s':Slot}(h:SlotFz H D s s'):SShape s s':=by
 cases h with
 | free=>exact .free
 | dead=>exact .dead
 | live hl h1 h=>exact .live rfl hl.symm
 | map h=>exact .map _ _
structure HFz (D:Nat→Bool) (H H':Heap):Prop where
 out:∀i,D i=false→H' i=frzH D H i
 inn:∀i,D i=true→SlotFz H D (H i) (H' i)
theorem HFz.shape (h:HFz D H H')(i:Nat):SShape (frzH D H i) (H' i):=by
 cases hd:D i with
 | true=>rw[qpj hd];exact (h.inn i hd).shape
 | false=>rw[h.out i hd];exact .refl _
theorem HFz.owns (h:HFz D H H'){i:Nat}(hi:(H' i).owns=true):D i=true∧(H i).owns=true:=by
 cases hd:D i with
 | false=>rw[h.out i hd,qrW hd] at hi;cases hi
 | true=>
  refine⟨rfl,?_⟩
  have h1:=h.inn i hd
  generalize H i=s at h1
  generalize H' i=s' at h1 hi
  cases h1<;>simp_all[Slot.owns]
theorem HFz.rep (hz:HFz D H H')(hS:Sim w A μ H)(h:Fz H D x y)(hr:Rep w A μ H v x):Rep w (qpy A μ H D) μ H' v y:=(h.rep hS v hr).shape hz.shape
theorem HFz.sim (hz:HFz D H H')(hS:Sim w A μ H):Sim w (qpy A μ H D) μ H' where
 inj i j hi hj hij:=hS.inj i j (hz.owns hi).2 (hz.owns hj).2 hij
 blk i b hb:=by
  have ho:=hz.owns (i:=i) (by rw[hb];rfl)
  have h1:=hz.inn i ho.1
  rw[hb] at h1
  cases hs:H i with
  | live b0=>
   rw[hs] at h1
   cases h1 with
   | live hl ho1 h=>
    obtain⟨cur,g1,g2,g3,g4⟩:=hS.blk i _ hs
    refine⟨cur,g1,?_,ho1,fun k hk=>hz.rep hS (h k ?_) (g4 k ?_)⟩
    ·simp only at g2 ⊢;omega
    ·simp only at hk;omega
    ·simp only at hk ⊢;omega
  | _=>rw[hs] at h1;cases h1
 map i es hb:=by
  have ho:=hz.owns (i:=i) (by rw[hb];rfl)
  have h1:=hz.inn i ho.1
  rw[hb] at h1
  cases hs:H i with
  | map es0=>
   rw[hs] at h1
   cases h1 with
   | map h=>
    obtain⟨ents,cl,g1,g2,g3⟩:=hS.map i _ hs
    refine⟨ents,cl,g1,g2,fun k hk=>?_⟩
    have hm:=h (es.getD k (.undef,.undef)) (by rw[List.getD_eq_getElem?_getD,List.getElem?_eq_getElem hk];exact List.getElem_mem hk)
    exact⟨hz.rep hS (.same hm.1) (g3 k hk).1,hz.rep hS (.same hm.2) (g3 k hk).2⟩
  | _=>rw[hs] at h1;cases h1
 dis i hi o ha:=by
  have ho:=hz.owns hi
  rcases ha with ha | ⟨j,hj,hj2,hij⟩
  ·exact hS.dis i ho.2 o ha
  ·have:=hS.inj i j ho.2 hj2 hij.symm
   subst this
   rw[ho.1] at hj
   cases hj
 sta b o ha:=by
  rcases ha with ha | ⟨i,_,hi,rfl⟩
  ·exact hS.sta b o ha
  ·exact hS.lt hi
 glb:=hS.glb.keep fun b o ha hb=>⟨.inl ha,rfl⟩
theorem HFz.trans (hz:HFz D H H'):Trans w A μ H w (qpy A μ H D) μ H' where
 os:=rfl
 tape:=⟨rfl,Nat.le_refl _⟩
 output:=rfl
 size:=Nat.le_refl _
 un b hb hn:=⟨rfl,fun i hi=>hn i (hz.owns hi).2⟩
 st b o ha hb:=⟨.inl ha,rfl⟩
 an b o ha:=by
  rcases ha with ha | ⟨i,_,hi,hb⟩
  ·exact .inl ha
  ·exact .inr (.inr ⟨i,hi,hb⟩)
 own i b hb:=by
  cases hd:D i with
  | false=>left;rw[hz.out i hd];simp[frzH,hd,hb]
  | true=>
   have h1:=hz.inn i hd
   rw[hb] at h1
   cases hs:H' i with
   | live b'=>
    rw[hs] at h1
    cases h1 with
    | live hl ho h=>exact .inr ⟨_,rfl,.inr ⟨hl.symm,rfl,rfl,fun cur hc=>⟨cur,hc,rfl⟩⟩⟩
   | _=>rw[hs] at h1;cases h1
 map i es hb:=by
  cases hd:D i with
  | false=>left;rw[hz.out i hd];simp[frzH,hd,hb]
  | true=>
   have h1:=hz.inn i hd
   rw[hb] at h1
   cases hs:H' i with
   | map es'=>exact .inr ⟨es',rfl,rfl⟩
   | _=>rw[hs] at h1;cases h1
 dead i hd:=by
  cases hD:D i with
  | false=>rw[hz.out i hD];simp[frzH,hD,hd]
  | true=>
   have h1:=hz.inn i hD
   rw[hd] at h1
   cases hs:H' i with
   | dead=>rfl
   | _=>rw[hs] at h1;cases h1
end
theorem qro {env env':Nat→T}{H H':Heap}(D:Nat→Bool)(he:∀t,env' t=.undef∨Fz H D (env t) (env' t))(hz:HFz D H H'):Weak env H env' H':=by
 intro w A μ a hE hS
 refine⟨qpy A μ H D,μ,fun t=>?_,hz.sim hS,hz.trans⟩
 rcases he t with h | h
 ·rw[h];exact .undef _
 ·exact hz.rep hS h (hE t)
inductive EFz (H:Heap) (D:Nat→Bool):List (Nat×T)→List (Nat×T)→Prop
 | nil:EFz H D [] []
 | cons {t:Nat} {x y:T} {l l':List (Nat×T)} (h:Fz H D x y) (hl:EFz H D l l'):EFz H D ((t,x)::l) ((t,y)::l')
 | drop {t:Nat} {x:T} {l l':List (Nat×T)} (hl:EFz H D l l'):EFz H D ((t,x)::l) ((t,.undef)::l')
theorem EFz.get {H:Heap}{D:Nat→Bool}{l l':List (Nat×T)}(h:EFz H D l l')(t:Nat):ofL l' t=.undef∨Fz H D (ofL l t) (ofL l' t):=by
 induction h with
 | nil=>exact .inl rfl
 | @cons s x y l l' h hl ih=>
  simp only[qdp]
  split
  ·exact .inr h
  ·exact ih
 | @drop s x l l' hl ih=>
  simp only[qdp]
  split
  ·exact .inl rfl
  ·exact ih
inductive LFz (H:Heap) (ids:List Nat):List (Nat×Slot)→List (Nat×Slot)→Prop
 | nil:LFz H ids [] []
 | keep {i:Nat} {s s':Slot} {l l':List (Nat×Slot)} (hi:inL ids i=true) (h:SlotFz H (inL ids) s s') (hl:LFz H ids l l'):LFz H ids ((i,s)::l) ((i,s')::l')
 | dead {i:Nat} {s:Slot} {l l':List (Nat×Slot)} (hi:inL ids i=false) (hs:s≠.free) (hl:LFz H ids l l'):LFz H ids ((i,s)::l) ((i,.dead)::l')
theorem LFz.hfz {H:Heap}{ids:List Nat}{l l':List (Nat×Slot)}(h:LFz H ids l l'):(∀i,inL ids i=false→hpL l' i=frzH (inL ids) (hpL l) i)∧(∀i,inL ids i=true→SlotFz H (inL ids) (hpL l i) (hpL l' i)):=by
 induction h with
 | nil=>exact⟨fun i hi=>by simp[hpL,frzH,hi],fun i hi=>.free⟩
 | @keep j s s' l l' hj h hl ih=>
  refine⟨fun i hi=>?_,fun i hi=>?_⟩
  ·have hne:i≠j:=fun e=>by subst e;rw[hi] at hj;cases hj
   have:=ih.1 i hi
   simp only[frzH,qaP,hne,if_false] at this ⊢
   exact this
  ·simp only[qaP]
   split
   ·exact h
   ·exact ih.2 i hi
 | @dead j s l l' hj hs hl ih=>
  refine⟨fun i hi=>?_,fun i hi=>?_⟩
  ·have:=ih.1 i hi
   simp only[frzH,qaP] at this ⊢
   by_cases e:i=j
   ·subst e
    simp only[if_true,hi,Bool.false_eq_true,if_false]
    try (cases s<;>simp_all)
   ·simp only[e,if_false]
    try exact this
  ·have hne:i≠j:=fun e=>by subst e;rw[hi] at hj;cases hj
   simp only[qaP,hne,if_false]
   exact ih.2 i hi
theorem qbZ {P:Program}{N:Nat}{c:ICode}{Q:IExit→(Nat→T)→Heap→Prop}{l l':List (Nat×T)}{hl hl':List (Nat×Slot)}(ids:List Nat)(he:EFz (hpL hl) (inL ids) l l')(hz:LFz (hpL hl) ids hl hl')(h:W P N c (ofL l') (hpL hl') Q):W P N c (ofL l) (hpL hl) Q:=
 qth (qro (inL ids) he.get ⟨hz.hfz.1,hz.hfz.2⟩) h
theorem TC.frz {P:Program}{f:FuncId}{args:List T}{H H1 H2:Heap}{r r':T}(D:Nat→Bool)(h:TC P f args H r H1)(hr:Fz H1 D r r')(hz:HFz D H1 H2):TC P f args H r' H2:=by
 refine⟨h.1,fun w A μ vs hS hR=>(h.2 w A μ vs hS hR).mono ?_⟩
 rintro e w2 ⟨v,A2,μ2,rfl,k1,k2,k3⟩
 exact⟨v,_,μ2,rfl,hz.rep k2 hr k1,hz.sim k2,k3.trans hz.trans⟩
theorem qr8 {H:Heap}{ids:List Nat}{l l':List (Nat×Slot)}(h:LFz H ids l l'):((qaf ids l').all fun p=>p.2.cl (inL ids))=true:=by
 induction h with
 | nil=>rfl
 | @keep i s s' l l' hi h hl ih=>
  simp only[qaf,hi,if_true,List.all_cons,ih,Bool.and_true]
  cases h with
  | free=>rfl
  | dead=>rfl
  | live hl' h1 h=>simp only[Slot.cl];exact qcY fun i hi'=>(h i (by omega)).cl
  | map h=>
   simp only[Slot.cl]
   rw[List.all_eq_true]
   intro e he
   simp[h e he]
 | dead hi hs hl ih=>simp only[qaf,hi,Bool.false_eq_true,if_false,ih]
theorem TC_fnF {P:Program}{f:FuncId}{N:Nat}{ic:ICode}{rs:List (Nat×Option Nat)}{args:List T}{l0 l2:List (Nat×Slot)}{r:T}(ids:List Nat)(h:FnOk P f N rs ic)(hn:args.length≤N)(h0:(l0.all fun p=>inL ids p.1)=true)
 (hw:W P N ic (ofL (argL 0 args)) (hpL l0) fun e env' H''=>(e=.ret∨e=.normal)∧∃x hl hl',resT env' H'' rs=some x∧H''=hpL hl∧Fz (hpL hl) (inL ids) x r∧LFz (hpL hl) ids hl hl'∧qaf ids hl'=l2):TC P f args (hpL l0) r (hpL l2):=by
 obtain⟨e,env',H'',h1,h2,x,hl,hl',h3,h4,h5,h6,h7⟩:=hw
 subst h4 h7
 have hc:=qi2 h hn ⟨e,env',hpL hl,h1,h2,h3,rfl⟩
 have hf:=hc.frz (inL ids) h5 ⟨h6.hfz.1,h6.hfz.2⟩
 exact ql8 ids hf h0 h5.cl (qr8 h6)
mutual
def T.ren (σ:Nat→Nat):T→T
 | .agg cs=>.agg (renL σ cs)
 | .tup vs=>.tup (renL σ vs)
 | .list xs=>.list (renL σ xs)
 | .ptr cs=>.ptr (renL σ cs)
 | .fn f cs=>.fn f (renL σ cs)
 | .ref id t o=>.ref (σ id) t o
 | .sl id t e o n=>.sl (σ id) t e o n
 | .mp id=>.mp (σ id)
 | .undef=>.undef
 | .bool b=>.bool b
 | .int k n=>.int k n
 | .str s=>.str s
 | .nil=>.nil
 | .emp=>.emp
 | .nilp=>.nilp
 | .nilfn=>.nilfn
 | .nilmp=>.nilmp
def renL (σ:Nat→Nat):List T→List T
 | []=>[]
 | x::xs=>x.ren σ::renL σ xs
end
theorem qe2 (σ:Nat→Nat):∀xs,renL σ xs=xs.map (T.ren σ)
 | []=>rfl
 | x::xs=>by simp[renL,qe2 σ xs]
theorem qbr (σ:Nat→Nat)(xs:List T):(renL σ xs).length=xs.length:=by rw[qe2,List.length_map]
theorem qd5 (σ:Nat→Nat)(xs:List T)(i:Nat):(renL σ xs).getD i .undef=(xs.getD i .undef).ren σ:=by
 rw[qe2]
 simp only[List.getD_eq_getElem?_getD,List.getElem?_map]
 cases xs[i]?<;>rfl
theorem qkU (σ:Nat→Nat)(x:T):(x.ren σ).cells=renL σ x.cells:=by cases x<;>rfl
theorem qlT (σ:Nat→Nat)(xs ys:List T):renL σ (xs++ys)=renL σ xs++renL σ ys:=by simp[qe2]
theorem qg4 (σ:Nat→Nat):∀xs,flat (renL σ xs)=renL σ (flat xs)
 | []=>rfl
 | x::xs=>by rw[renL,qbH,qbH,qlT,qkU,qg4 σ xs]
theorem quw (σ:Nat→Nat)(x:T):(x.ren σ).one=x.one:=by cases x<;>rfl
theorem qg5 {σ:Nat→Nat}{xs:List T}(h:Ones xs):Ones (renL σ xs):=by
 intro c hc
 rw[qe2] at hc
 obtain⟨x,hx,rfl⟩:=List.mem_map.1 hc
 rw[quw];exact h x hx
theorem qqm {σ:Nat→Nat}{k:Nat}{xs:List T}(h:qc3 k xs):qc3 k (renL σ xs):=by
 intro c hc
 rw[qe2] at hc
 obtain⟨x,hx,rfl⟩:=List.mem_map.1 hc
 rw[qkU,qbr];exact h x hx
mutual
theorem T.ren_ren {σ τ:Nat→Nat}(h:∀i,τ (σ i)=i):∀x:T,(x.ren σ).ren τ=x
 | .agg cs=>by simp only[T.ren,qda h cs]
 | .tup cs=>by simp only[T.ren,qda h cs]
 | .list cs=>by simp only[T.ren,qda h cs]
 | .ptr cs=>by simp only[T.ren,qda h cs]
 | .fn f cs=>by simp only[T.ren,qda h cs]
 | .ref id t o=>by simp only[T.ren,h]
 | .sl id t e o n=>by simp only[T.ren,h]
 | .mp id=>by simp only[T.ren,h]
 | .undef=>rfl
 | .bool b=>rfl
 | .int k n=>rfl
 | .str s=>rfl
 | .nil=>rfl
 | .emp=>rfl
 | .nilp=>rfl
 | .nilfn=>rfl
 | .nilmp=>rfl
theorem qda {σ τ:Nat→Nat}(h:∀i,τ (σ i)=i):∀xs:List T,renL τ (renL σ xs)=xs
 | []=>rfl
 | x::xs=>by simp only[renL,T.ren_ren h x,qda h xs]
end
mutual
theorem T.ren_fro {σ:Nat→Nat}:∀x:T,x.fro=true→x.ren σ=x
 | .agg cs,h=>by simp only[T.cl] at h;simp only[T.ren,qd4 cs h]
 | .tup cs,h=>by simp only[T.cl] at h;simp only[T.ren,qd4 cs h]
 | .list cs,h=>by simp only[T.cl] at h;simp only[T.ren,qd4 cs h]
 | .ptr cs,h=>by simp only[T.cl] at h;simp only[T.ren,qd4 cs h]
 | .fn f cs,h=>by simp only[T.cl] at h;simp only[T.ren,qd4 cs h]
 | .ref id t o,h=>by simp[T.cl] at h
 | .sl id t e o n,h=>by simp[T.cl] at h
 | .mp id,h=>by simp[T.cl] at h
 | .undef,_=>rfl
 | .bool b,_=>rfl
 | .int k n,_=>rfl
 | .str s,_=>rfl
 | .nil,_=>rfl
 | .emp,_=>rfl
 | .nilp,_=>rfl
 | .nilfn,_=>rfl
 | .nilmp,_=>rfl
theorem qd4 {σ:Nat→Nat}:∀xs:List T,froL xs=true→renL σ xs=xs
 | [],_=>rfl
 | x::xs,h=>by
  simp only[clL,Bool.and_eq_true] at h
  simp only[renL,T.ren_fro x h.1,qd4 xs h.2]
end
def Slot.ren (σ:Nat→Nat):Slot→Slot
 | .live b=>.live ⟨b.ty,renL σ b.cs⟩
 | .map es=>.map (es.map fun e=>(e.1.ren σ,e.2.ren σ))
 | s=>s
theorem Slot.ren_ren {σ τ:Nat→Nat}(h:∀i,τ (σ i)=i)(s:Slot):(s.ren σ).ren τ=s:=by
 cases s with
 | live b=>simp only[Slot.ren,qda h]
 | map es=>
  simp only[Slot.ren,List.map_map]
  congr 1
  conv=>rhs;rw[←List.map_id es]
  apply List.map_congr_left
  intro e _
  simp[T.ren_ren h]
 | _=>rfl
theorem Slot.ren_owns (σ:Nat→Nat)(s:Slot):(s.ren σ).owns=s.owns:=by cases s<;>rfl
def renH (σ τ:Nat→Nat)(H:Heap):Heap:=fun j=>(H (τ j)).ren σ
theorem qkT {σ τ:Nat→Nat}(h:∀i,τ (σ i)=i)(H:Heap):renH τ σ (renH σ τ H)=H:=by
 funext i
 simp only[renH,h,Slot.ren_ren h]
section
variable {w w':World} {A A':Sta} {μ μ':Nat→Nat} {H H':Heap} {v:Value} {x:T} {σ τ:Nat→Nat}
theorem qgN.ren (h:∀i,τ (σ i)=i){id tot:Nat}(hs:qgN H id tot):qgN (renH σ τ H) (σ id) tot:=by
 rcases hs with hd | ⟨b,hb,hl⟩
 ·left;simp[renH,h,hd,Slot.ren]
 ·right;exact⟨⟨b.ty,renL σ b.cs⟩,by simp[renH,h,hb,Slot.ren],by simpa [qbr] using hl⟩
theorem Rep.ren (h:∀i,τ (σ i)=i)(hr:Rep w A μ H v x):Rep w A (fun j=>μ (τ j)) (renH σ τ H) v (x.ren σ):=by
 induction hr with
 | undef v=>exact .undef v
 | bool b=>exact .bool b
 | int k n=>exact .int k n
 | str s=>exact .str s
 | agg us cs hn h1 _ ih=>exact .agg us _ (by rw[qbr];exact hn) (qg5 h1) fun i hi=>by rw[qd5];exact ih i (by rw[qbr] at hi;exact hi)
 | tup us vs hn _ ih=>exact .tup us _ (by rw[qbr];exact hn) fun i hi=>by rw[qd5];exact ih i (by rw[qbr] at hi;exact hi)
 | list a c k xs U hk hc h1 hA hU _ ih=>
  have e:xs.length=(renL σ xs).length:=(qbr σ xs).symm
  have el:(flat (renL σ xs)).length=(flat xs).length:=by rw[qg4,qbr]
  simp only[T.ren]
  rw[e]
  exact .list a c k _ U (qqm hk) (by rw[←e];exact hc) (by rw[qg4];exact qg5 h1) (fun p hp=>hA p (by omega)) (fun p hp=>hU p (by omega)) fun p hp=>by rw[qg4,qd5];exact ih p (by omega)
 | lnil=>exact .lnil
 | nil=>exact .nil
 | emp p=>exact .emp p
 | ptr a cs U h1 hA hU _ ih=>exact .ptr a _ U (qg5 h1) (fun p hp=>hA p (by rw[qbr] at hp;exact hp)) (fun p hp=>hU p (by rw[qbr] at hp;exact hp)) fun p hp=>by rw[qd5];exact ih p (by rw[qbr] at hp;exact hp)
 | nilp=>exact .nilp
 | fn f us caps hn _ ih=>exact .fn f us _ (by rw[qbr];exact hn) fun i hi=>by rw[qd5];exact ih i (by rw[qbr] at hi;exact hi)
 | nilfn=>exact .nilfn
 | ref id tot off b hb ht=>
  have:=Rep.ref (w:=w) (A:=A) (μ:=fun j=>μ (τ j)) (H:=renH σ τ H) (σ id) tot off ⟨b.ty,renL σ b.cs⟩ (by simp[renH,h,hb,Slot.ren]) (by simpa [qbr] using ht)
  simpa [h,T.ren] using this
 | refS p id tot off hs=>exact .refS _ _ _ _ (hs.ren h)
 | sl id tot e off n c b cur hb ht hcur hn hm hc hf=>
  have:=Rep.sl (w:=w) (A:=A) (μ:=fun j=>μ (τ j)) (H:=renH σ τ H) (σ id) tot e off n c ⟨b.ty,renL σ b.cs⟩ cur (by simp[renH,h,hb,Slot.ren]) (by simpa [qbr] using ht) (by simpa [h] using hcur) hn hm hc hf
  simpa [h,T.ren] using this
 | slS p c id tot e off n hn hs=>exact .slS _ _ _ _ _ _ _ hn (hs.ren h)
 | mp id es he=>
  have:=Rep.mp (w:=w) (A:=A) (μ:=fun j=>μ (τ j)) (H:=renH σ τ H) (σ id) (es.map fun e=>(e.1.ren σ,e.2.ren σ)) (by simp[renH,h,he,Slot.ren])
  simpa [h,T.ren] using this
 | mpS v id hd=>exact .mpS _ _ (by simp[renH,h,hd,Slot.ren])
 | nilmp=>exact .nilmp
theorem qkS (h':∀j,σ (τ j)=j){j:Nat}{b:Blk}(hb:renH σ τ H j=.live b):∃b0,H (τ j)=.live b0∧b=⟨b0.ty,renL σ b0.cs⟩:=by
 simp only[renH] at hb
 cases hs:H (τ j)<;>rw[hs] at hb<;>simp[Slot.ren] at hb
 exact⟨_,rfl,hb.symm⟩
theorem qnb {j:Nat}{es:List (T×T)}(hb:renH σ τ H j=.map es):∃es0,H (τ j)=.map es0∧es=es0.map fun e=>(e.1.ren σ,e.2.ren σ):=by
 simp only[renH] at hb
 cases hs:H (τ j)<;>rw[hs] at hb<;>simp[Slot.ren] at hb
 exact⟨_,rfl,hb.symm⟩
theorem qeD {j:Nat}:(renH σ τ H j).owns=(H (τ j)).owns:=Slot.ren_owns _ _
theorem Sim.ren (h:∀i,τ (σ i)=i)(h':∀j,σ (τ j)=j)(hS:Sim w A μ H):Sim w A (fun j=>μ (τ j)) (renH σ τ H) where
 inj i j hi hj hij:=by
  rw[qeD] at hi hj
  have:=hS.inj _ _ hi hj hij
  rw[←h' i,←h' j,this]
 blk i b hb:=by
  obtain⟨b0,hb0,rfl⟩:=qkS h' hb
  obtain⟨cur,g1,g2,g3,g4⟩:=hS.blk _ _ hb0
  exact⟨cur,g1,by simpa [qbr] using g2,qg5 g3,fun k hk=>by simp only[qd5];exact (g4 k (by simpa [qbr] using hk)).ren h⟩
 map i es hb:=by
  obtain⟨es0,he0,rfl⟩:=qnb hb
  obtain⟨ents,cl,g1,g2,g3⟩:=hS.map _ _ he0
  refine⟨ents,cl,g1,by simpa using g2,fun k hk=>?_⟩
  have hk':k<es0.length:=by simpa using hk
  have e:(es0.map fun e=>(e.1.ren σ,e.2.ren σ)).getD k (.undef,.undef)=((es0.getD k (.undef,.undef)).1.ren σ,(es0.getD k (.undef,.undef)).2.ren σ):=by
   simp[List.getD_eq_getElem?_getD,List.getElem?_eq_getElem hk']
  rw[e]
  exact⟨(g3 k hk').1.ren h,(g3 k hk').2.ren h⟩
 dis i hi:=by rw[qeD] at hi;exact hS.dis _ hi
 sta:=hS.sta
 glb:=hS.glb
theorem Trans.ren (h:∀i,τ (σ i)=i)(h':∀j,σ (τ j)=j)(ht:Trans w A μ H w' A' μ' H'):Trans w A (fun j=>μ (τ j)) (renH σ τ H) w' A' (fun j=>μ' (τ j)) (renH σ τ H') where
 os:=ht.os
 tape:=ht.tape
 output:=ht.output
 size:=ht.size
 un b hb hn:=by
  obtain⟨g1,g2⟩:=ht.un b hb fun i hi=>by
   have:=hn (σ i) (by rw[qeD,h];exact hi)
   simpa [h] using this
  exact⟨g1,fun i hi=>g2 _ (by rw[qeD] at hi;exact hi)⟩
 st:=ht.st
 an b o ha:=by
  rcases ht.an b o ha with g | g | ⟨i,hi,hb⟩
  ·exact .inl g
  ·exact .inr (.inl g)
  ·exact .inr (.inr ⟨σ i,by rw[qeD,h];exact hi,by simpa [h] using hb⟩)
 own i b hb:=by
  obtain⟨b0,hb0,rfl⟩:=qkS h' hb
  rcases ht.own _ _ hb0 with g | ⟨b',g,g2⟩
  ·left;simp[renH,g,Slot.ren]
  ·right
   refine⟨⟨b'.ty,renL σ b'.cs⟩,by simp[renH,g,Slot.ren],?_⟩
   simpa [qbr] using g2
 map i es hb:=by
  obtain⟨es0,he0,rfl⟩:=qnb hb
  rcases ht.map _ _ he0 with g | ⟨es',g,g2⟩
  ·left;simp[renH,g,Slot.ren]
  ·right
   exact⟨es'.map fun e=>(e.1.ren σ,e.2.ren σ),by simp only[renH,g,Slot.ren],g2⟩
 dead i hd:=by
  have:H (τ i)=.dead:=by
   simp only[renH] at hd
   cases hs:H (τ i)<;>rw[hs] at hd<;>simp_all[Slot.ren]
  simp[renH,ht.dead _ this,Slot.ren]
end
theorem TC.ren {P:Program}{f:FuncId}{args:List T}{H H1:Heap}{r:T}(σ τ:Nat→Nat)(s1:∀i,τ (σ i)=i)(s2:∀j,σ (τ j)=j)(h:TC P f args H r H1):TC P f (renL σ args) (renH σ τ H) (r.ren σ) (renH σ τ H1):=by
 refine⟨h.1,fun w A μ vs hS hR=>?_⟩
 have hS':=hS.ren (σ:=τ) (τ:=σ) s2 s1
 rw[qkT s1] at hS'
 refine (h.2 w A (fun j=>μ (σ j)) vs hS' ⟨by rw[hR.1,qbr],fun i hi=>?_⟩).mono ?_
 ·have:=(hR.2 i (by rw[qbr];exact hi)).ren (σ:=τ) (τ:=σ) s2
  rw[qkT s1,qd5,T.ren_ren s1] at this
  exact this
 ·rintro e w2 ⟨v,A2,μ2,rfl,k1,k2,k3⟩
  have ht:=k3.ren (σ:=σ) (τ:=τ) s1 s2
  simp only[s2] at ht
  exact⟨v,A2,_,rfl,k1.ren s1,k2.ren s1 s2,ht⟩
def swp (a b:Nat)(i:Nat):Nat:=if i=a then b else if i=b then a else i
theorem qq3 (a b i:Nat):swp a b (swp a b i)=i:=by
 unfold swp
 by_cases h1:i=a<;>by_cases h2:i=b<;>simp_all
theorem qj2 (σ τ:Nat→Nat)(s1:∀i,τ (σ i)=i)(s2:∀j,σ (τ j)=j):∀l:List (Nat×Slot),renH σ τ (hpL l)=hpL (l.map fun p=>(σ p.1,p.2.ren σ))
 | []=>by funext j;rfl
 | (i,s)::l=>by
  have ih:=qj2 σ τ s1 s2 l
  funext j
  have hj:=congrFun ih j
  simp only[renH,List.map_cons,qaP] at hj ⊢
  by_cases e:τ j=i
  ·have:j=σ i:=by rw[←e,s2]
   subst this
   simp[s1]
  ·have:j≠σ i:=fun e'=>e (by rw[e',s1])
   simp only[e,this,if_false]
   exact hj
def swps:List (Nat×Nat)→Nat→Nat
 | [],i=>i
 | (a,b)::l,i=>swps l (swp a b i)
def qor:List (Nat×Nat)→Nat→Nat
 | [],i=>i
 | (a,b)::l,i=>swp a b (qor l i)
theorem qg7:∀(l:List (Nat×Nat)) (i:Nat),qor l (swps l i)=i
 | [],i=>rfl
 | (a,b)::l,i=>by simp only[swps,qor,qg7 l,qq3]
theorem swps_inv':∀(l:List (Nat×Nat)) (i:Nat),swps l (qor l i)=i
 | [],i=>rfl
 | (a,b)::l,i=>by simp only[swps,qor,qq3,swps_inv' l]
theorem TC_swp {P:Program}{f:FuncId}{args args':List T}{l0 l0' l1 l1':List (Nat×Slot)}{r r':T}(s:List (Nat×Nat))(h:TC P f args (hpL l0) r (hpL l1))(ha:renL (swps s) args=args')(hl0:(l0.map fun p=>(swps s p.1,p.2.ren (swps s)))=l0')(hr:r.ren (swps s)=r')(hl1:(l1.map fun p=>(swps s p.1,p.2.ren (swps s)))=l1'):TC P f args' (hpL l0') r' (hpL l1'):=by
 have:=h.ren (swps s) (qor s) (qg7 s) (swps_inv' s)
 rw[qj2 _ _ (qg7 s) (swps_inv' s),qj2 _ _ (qg7 s) (swps_inv' s),ha,hl0,hr,hl1] at this
 exact this
theorem qtF {P:Program}{N:Nat}{a b:ICode}{env:Nat→T}{H:Heap}{Q:IExit→(Nat→T)→Heap→Prop}{x:Opd}{t:Bool}(hx:x.ev env=.bool t)(h1:t=true→W P N a env H Q)(h2:t=false→W P N b env H Q):W P N (.cond x a b) env H Q:=
 qan hx (by cases t with
  | true=>exact h1 rfl
  | false=>exact h2 rfl)
section
variable {P:Program} {base j:Nat} {d:Option Nat} {rs:List IRow} {env:Nat→T} {H:Heap} {log:List LogE} {K:(Nat→T)→Heap→List LogE→Prop} {f:FuncId} {args:List Opd} {xs:List T} {v:T}
theorem qk4 {t:Nat}{want b:Bool}(hb:env t=.bool b)(ha:(b==want)=true→args.map (·.ev env)=xs)(hc:(b==want)=true→TC P f xs (fun _=>.free) v (fun _=>.free))(hf:froL xs=true)
 (h:RunR P base (j+1) rs (putE env d (if (b==want)=true then v else .tup [])) H log K):RunR P base j (⟨d,.call (.call f args),some (t,want)⟩::rs) env H log K:=by
 cases hbw:(b==want) with
 | true=>
  rw[hbw] at h
  simp only[if_true] at h
  exact qdL (by simp[qbP,hb,hbw]) (ha hbw) (hc hbw) hf h
 | false=>
  rw[hbw] at h
  simp only[Bool.false_eq_true,if_false] at h
  exact qnj (by simp[qbP,hb,hbw]) h
end
theorem qp2 {H:Heap}{C:List (Nat×Slot)}(h:(C.all fun p=>match p.2 with | .free=>false | _=>true)=true)(h1:∀p∈C,H p.1=hp C p.1)(h2:(C.all fun p=>(hp C p.1).cl (fun i=>decide (i∈C.map (·.1))))=true):qcK H C:=by
 intro p hp
 refine⟨?_,h1 p hp,List.all_eq_true.1 h2 p hp⟩
 have:=List.all_eq_true.1 h p hp
 intro e
 rw[e] at this
 cases this
theorem qmt:∀(C:List (Nat×Slot)),(C.map (·.1)).Nodup→hp C=hpL C
 | [],_=>rfl
 | (i,s)::C,h=>by
  simp only[List.map_cons,List.nodup_cons] at h
  have ih:=qmt C h.2
  funext t
  show Heap.upd (Heap.set (fun _=>.free) i s) C t=_
  by_cases e:t=i
  ·subst e
   rw[qba h.1]
   simp[Heap.set,hpL]
  ·simp only[qaP,e,if_false]
   rw[←ih]
   by_cases hm:t∈C.map (·.1)
   ·exact qlj hm
   ·rw[qba hm,qgC hm,Heap.set_other _ _ e]
theorem Frz.aggL {H:Heap}{cs cs':List T}(h:FrzL H cs cs')(h1:(cs'.all T.one)=true):Frz H (.agg cs) (.agg cs'):=.agg h.1 (fun c hc=>List.all_eq_true.1 h1 c hc) h.2
theorem Frz.tupL {H:Heap}{cs cs':List T}(h:FrzL H cs cs'):Frz H (.tup cs) (.tup cs'):=.tup h.1 h.2
theorem Frz.slL {H:Heap}{id tot e n ty:Nat}{cs xs:List T}(hb:H id=.live ⟨ty,cs⟩)(ht:cs.length=tot)(hn:xs.length=n)(hf:n*esz e=tot)(hs:(xs.all fun x=>x.cells.length==esz e)=true)(h1:((flat xs).all T.one)=true)(h:FrzL H cs (flat xs)):Frz H (.sl id tot e 0 n) (.list xs):=by
 refine Frz.sl hb ht (by omega) hn (fun x hx=>by simpa using List.all_eq_true.1 hs x hx) (fun c hc=>List.all_eq_true.1 h1 c hc) fun k hk=>?_
 rw[Nat.zero_add]
 exact h.2 k (by omega)
def FzL (H:Heap)(D:Nat→Bool)(xs ys:List T):Prop:=xs.length=ys.length∧∀i,i<xs.length→Fz H D (xs.getD i .undef) (ys.getD i .undef)
theorem FzL.nil {H:Heap}{D:Nat→Bool}:FzL H D [] []:=⟨rfl,fun i hi=>by cases hi⟩
theorem FzL.cons {H:Heap}{D:Nat→Bool}{x y:T}{xs ys:List T}(h:Fz H D x y)(t:FzL H D xs ys):FzL H D (x::xs) (y::ys):=⟨by simp[t.1],fun i hi=>by
 cases i with
 | zero=>exact h
 | succ i=>exact t.2 i (by simpa using hi)⟩
theorem Fz.aggL {H:Heap}{D:Nat→Bool}{cs cs':List T}(h:FzL H D cs cs')(h1:(cs'.all T.one)=true):Fz H D (.agg cs) (.agg cs'):=.agg h.1 (fun c hc=>List.all_eq_true.1 h1 c hc) h.2
theorem Fz.tupL {H:Heap}{D:Nat→Bool}{cs cs':List T}(h:FzL H D cs cs'):Fz H D (.tup cs) (.tup cs'):=.tup h.1 h.2
theorem Fz.slL {H:Heap}{D:Nat→Bool}{id tot e n ty:Nat}{cs xs:List T}(hb:H id=.live ⟨ty,cs⟩)(hd:D id=false)(ht:cs.length=tot)(hn:xs.length=n)(hf:n*esz e=tot)(hs:(xs.all fun x=>x.cells.length==esz e)=true)(h1:((flat xs).all T.one)=true)(h:FzL H D cs (flat xs)):Fz H D (.sl id tot e 0 n) (.list xs):=by
 refine Fz.sl hb hd ht (by omega) hn (fun x hx=>by simpa using List.all_eq_true.1 hs x hx) (fun c hc=>List.all_eq_true.1 h1 c hc) fun k hk=>?_
 rw[Nat.zero_add]
 exact h.2 k (by omega)
theorem SlotFz.liveL {H:Heap}{D:Nat→Bool}{ty:TypeId}{cs cs':List T}(h:FzL H D cs cs')(h1:(cs'.all T.one)=true):SlotFz H D (.live ⟨ty,cs⟩) (.live ⟨ty,cs'⟩):=.live h.1 (fun c hc=>List.all_eq_true.1 h1 c hc) h.2
theorem SlotFz.liveS {H:Heap}{D:Nat→Bool}{ty:TypeId}{cs:List T}(h:clL D cs=true)(h1:Ones cs):SlotFz H D (.live ⟨ty,cs⟩) (.live ⟨ty,cs⟩):=.live rfl h1 fun i hi=>.same (qbk h i)
def ovrH (H H1:Heap):Heap:=fun i=>match H i with | .free=>H1 i | _=>.dead
theorem TC.give {P:Program}{f:FuncId}{xs ys:List T}{r:T}{H H1:Heap}(h:TC P f ys (fun _=>.free) r H1)(hz:FrzL H xs ys)(hd:∀i,H1 i≠.free→H i=.free):TC P f xs H r (ovrH H H1):=by
 refine⟨h.1,fun w A μ vs hS hR=>(h.2 w _ μ vs hS.kept (qj4 hS hz hR)).mono ?_⟩
 rintro e w' ⟨v,A',μ',rfl,h1,h2,h3⟩
 have hc:∀i,H1 i≠.free→ovrH H H1 i=H1 i:=fun i hi=>by simp[ovrH,hd i hi]
 have hown:∀i,(ovrH H H1 i).owns=true→(H1 i).owns=true∧ovrH H H1 i=H1 i:=fun i hi=>by
  cases hh:H i with
  | free=>simp only[ovrH,hh] at hi ⊢;exact⟨hi,trivial⟩
  | _=>simp[ovrH,hh,Slot.owns] at hi
 have hlt:∀i,(H1 i).owns=true→μ' i<w.heap.size→∀j,(H j).owns=true→False:=fun i hi hlt j hj=>by
  have:=(h3.un (μ' i) hlt (fun k hk=>by cases hk)).2 i hi
  exact this rfl
 refine⟨v,A',μ',rfl,h1.ext fun i hi=>⟨hc i hi,rfl⟩,⟨fun i j hi hj hij=>h2.inj i j (hown i hi).1 (hown j hj).1 hij,fun i b hb=>?_,fun i es hb=>?_,fun i hi=>h2.dis i (hown i hi).1,h2.sta,h2.glb⟩,
  ⟨h3.os,h3.tape,h3.output,h3.size,fun b hb hn=>⟨(h3.un b hb fun i hi=>by cases hi).1,fun i hi=>(h3.un b hb fun i hi=>by cases hi).2 i (hown i hi).1⟩,fun b o ha hb=>h3.st b o (.inl ha) hb,fun b o ha=>?_,fun i b hb=>.inl (by simp[ovrH,hb]),fun i es hb=>.inl (by simp[ovrH,hb]),fun i hd=>by simp[ovrH,hd]⟩⟩
 ·have ho:=hown i (by rw[hb];rfl)
  rw[ho.2] at hb
  obtain⟨cur,a1,a2,a3,a4⟩:=h2.blk i b hb
  exact⟨cur,a1,a2,a3,fun k hk=>(a4 k hk).ext fun i hi=>⟨hc i hi,rfl⟩⟩
 ·have ho:=hown i (by rw[hb];rfl)
  rw[ho.2] at hb
  obtain⟨ents,cl,a1,a2,a3⟩:=h2.map i es hb
  exact⟨ents,cl,a1,a2,fun k hk=>⟨(a3 k hk).1.ext fun i hi=>⟨hc i hi,rfl⟩,(a3 k hk).2.ext fun i hi=>⟨hc i hi,rfl⟩⟩⟩
 ·rcases h3.an b o ha with ha | ha | ⟨k,hk,_⟩
  ·rcases ha with ha | ⟨i,hi,hb⟩
   ·exact .inl ha
   ·exact .inr (.inr ⟨i,hi,hb⟩)
  ·exact .inr (.inl ha)
  ·cases hk
end
end Go.Proofs.YtkbjpglehdhjfaaGreatDoor
