/- Contracts of functions of the program, for all arguments that they name. -/
import Derived.WalkKit
import Derived.Maps.AppendAt
import Derived.Orders
import Derived.Laws.CopyRow
import Derived.ChangeKeysEq
import Derived.Laws.StructEq
import Derived.Laws.Tables
import Derived.Laws.MakeOwn
import Derived.Great.Walk
import Derived.Laws.BytesString
namespace Go.Proofs.YtkbjpglehdhjfaaGreatDoor
set_option linter.unusedVariables false
section
open Go.RowKit
inductive T where
 | undef
 | bool (b:Bool)
 | int (k:IntKind) (n:Int)
 | str (s:ByteArray)
 | agg (cs:List T)
 | tup (vs:List T)
 | list (xs:List T)
 | nil
 | emp
 | ptr (cs:List T)
 | nilp
 | fn (f:FuncId) (caps:List T)
 | nilfn
 | ref (id tot off:Nat)
 | sl (id tot e off n:Nat)
 | mp (id:Nat)
 | nilmp
instance:Inhabited T:=⟨.undef⟩
def T.cells:T→List T
 | .agg cs=>cs
 | x=>[x]
def T.one:T→Bool
 | .agg _ | .tup _ | .undef=>false
 | _=>true
def flat (xs:List T):List T:=xs.flatMap T.cells
def qc3 (k:Nat)(xs:List T):Prop:=∀x∈xs,x.cells.length=k
def Ones (cs:List T):Prop:=∀c∈cs,c.one=true
def esz (e:Nat):Nat:=if e=0 then 1 else e
theorem qbH (x:T)(xs:List T):flat (x::xs)=x.cells++flat xs:=rfl
theorem qfk (xs ys:List T):flat (xs++ys)=flat xs++flat ys:=by simp[flat]
theorem qcE {k:Nat}:∀ {xs:List T},qc3 k xs→(flat xs).length=xs.length*k
 | [],_=>by simp[flat]
 | x::xs,h=>by
  rw[qbH,List.length_append,qcE (fun y hy=>h y (List.mem_cons_of_mem _ hy)),h x (List.mem_cons_self ..),List.length_cons,Nat.add_mul]
  omega
theorem qks {k:Nat}:∀ {xs:List T} (i j:Nat),qc3 k xs→i<xs.length→j<k→(flat xs).getD (i*k+j) .undef=((xs.getD i .undef).cells).getD j .undef
 | [],i,j,_,h,_=>by simp at h
 | x::xs,0,j,hs,_,hj=>by
  have:x.cells.length=k:=hs x (List.mem_cons_self ..)
  rw[qbH]
  simp only[Nat.zero_mul,Nat.zero_add,List.getD_eq_getElem?_getD]
  rw[List.getElem?_append_left (by omega)]
  rfl
 | x::xs,i+1,j,hs,hi,hj=>by
  have hx:x.cells.length=k:=hs x (List.mem_cons_self ..)
  have hi':i<xs.length:=by simpa using hi
  have ih:=qks (xs:=xs) i j (fun y hy=>hs y (List.mem_cons_of_mem _ hy)) hi' hj
  rw[qbH]
  have e:(x::xs).getD (i+1) .undef=xs.getD i .undef:=rfl
  rw[e,←ih]
  simp only[List.getD_eq_getElem?_getD]
  rw[List.getElem?_append_right (by rw[hx,Nat.add_mul];omega),hx]
  congr 2
  rw[Nat.add_mul]
  omega
theorem qc3.drop {k:Nat}{xs:List T}(h:qc3 k xs)(n:Nat):qc3 k (xs.drop n):=fun x hx=>h x (List.mem_of_mem_drop hx)
theorem qc3.take {k:Nat}{xs:List T}(h:qc3 k xs)(n:Nat):qc3 k (xs.take n):=fun x hx=>h x (List.mem_of_mem_take hx)
theorem qc3.append {k:Nat}{xs ys:List T}(h:qc3 k xs)(h':qc3 k ys):qc3 k (xs++ys):=fun x hx=>(List.mem_append.1 hx).elim (h x) (h' x)
theorem qht {k:Nat}:∀ {xs:List T} (n:Nat),qc3 k xs→flat (xs.drop n)=(flat xs).drop (n*k)
 | xs,0,_=>by simp
 | [],n+1,_=>by simp[flat]
 | x::xs,n+1,h=>by
  have hx:x.cells.length=k:=h x (List.mem_cons_self ..)
  have hle:x.cells.length≤(n+1)*k:=by rw[hx,Nat.add_mul];omega
  rw[List.drop_succ_cons,qht n (fun y hy=>h y (List.mem_cons_of_mem _ hy)),qbH,List.drop_append,List.drop_eq_nil_of_le hle,List.nil_append,hx]
  congr 1
  rw[Nat.add_mul]
  omega
theorem qjl {xs:List T}(n p:Nat)(hp:p<(flat (xs.take n)).length):(flat (xs.take n)).getD p .undef=(flat xs).getD p .undef:=by
 have e:flat xs=flat (xs.take n)++flat (xs.drop n):=by rw[←qfk,List.take_append_drop]
 rw[e]
 simp only[List.getD_eq_getElem?_getD]
 rw[List.getElem?_append_left hp]
theorem qkt {xs:List T}(n:Nat):(flat (xs.take n)).length≤(flat xs).length:=by
 have e:flat xs=flat (xs.take n)++flat (xs.drop n):=by rw[←qfk,List.take_append_drop]
 rw[e,List.length_append];omega
theorem qbl (a:Addr)(n:Nat):(a.add n).block=a.block:=by unfold Addr.add;split<;>rfl
theorem qcy (a:Addr)(n:Nat):(a.add n).off=a.off+n:=by unfold Addr.add;split<;>simp_all
theorem qj9 (a:Addr)(i j:Nat):(a.add i).add j=a.add (i+j):=by
 unfold Addr.add
 by_cases hi:i=0<;>by_cases hj:j=0<;>simp[hi,hj,Nat.add_assoc]
theorem qdd (g o n:Nat):(⟨g,o,none⟩:Addr).add n=⟨g,o+n,none⟩:=by
 unfold Addr.add
 by_cases h:n=0<;>simp[h]
theorem qco {w:World}{p:Addr}{v:Value}(h:w.cell? p=some v):p.block<w.heap.size:=by
 rcases Nat.lt_or_ge p.block w.heap.size with hlt | hge
 ·exact hlt
 ·simp[World.cell?,Array.getElem?_eq_none hge] at h
theorem qf3 {w:World}{p:Addr}{v:Value}(h:w.cell? p=some v):p=⟨p.block,p.off,none⟩:=by
 obtain⟨b,o,s⟩:=p
 cases s with
 | none=>rfl
 | some s=>
  unfold World.cell? at h
  split at h<;>simp at h
theorem qbu {w:World}{b:Nat}{o:Obj}(h:w.heap[b]? = some o):b<w.heap.size:=by
 rcases Nat.lt_or_ge b w.heap.size with hlt | hge
 ·exact hlt
 ·simp[Array.getElem?_eq_none hge] at h
structure Blk where
 ty:TypeId
 cs:List T
inductive Slot where
 | free
 | live (b:Blk)
 | map (es:List (T×T))
 | dead
def Slot.owns:Slot→Bool
 | .live _ | .map _=>true
 | _=>false
abbrev Heap:=Nat→Slot
abbrev Sta:=Nat→Nat→Prop
def qgN (H:Heap)(id tot:Nat):Prop:=H id=.dead∨∃b,H id=.live b∧tot<b.cs.length
inductive Rep (w:World) (A:Sta) (μ:Nat→Nat) (H:Heap):Value→T→Prop
 | undef (v:Value):Rep w A μ H v .undef
 | bool (b:Bool):Rep w A μ H (.bool b) (.bool b)
 | int (k:IntKind) (n:Int):Rep w A μ H (.int k n) (.int k n)
 | str (s:ByteArray):Rep w A μ H (.string s) (.str s)
 | agg (us:Array Value) (cs:List T) (hn:us.size=cs.length) (h1:Ones cs) (h:∀i,i<cs.length→Rep w A μ H (us.getD i Go.undef) (cs.getD i .undef)):Rep w A μ H (.agg us) (.agg cs)
 | tup (us:Array Value) (vs:List T) (hn:us.size=vs.length) (h:∀i,i<vs.length→Rep w A μ H (us.getD i Go.undef) (vs.getD i .undef)):Rep w A μ H (.tuple us) (.tup vs)
 | list (a:Addr) (c k:Nat) (xs:List T) (U:Nat→Value) (hk:qc3 k xs) (hc:xs.length≤c) (h1:Ones (flat xs)) (hA:∀p,p<(flat xs).length→A a.block (a.off+p))
  (hU:∀p,p<(flat xs).length→w.cell? (a.add p)=some (U p)) (hR:∀p,p<(flat xs).length→Rep w A μ H (U p) ((flat xs).getD p .undef)):Rep w A μ H (.slice (some a) xs.length c) (.list xs)
 | lnil:Rep w A μ H (.slice none 0 0) (.list [])
 | nil:Rep w A μ H (.slice none 0 0) .nil
 | emp (p:Option Addr):Rep w A μ H (.slice p 0 0) .emp
 | ptr (a:Addr) (cs:List T) (U:Nat→Value) (h1:Ones cs) (hA:∀p,p<cs.length→A a.block (a.off+p))
  (hU:∀p,p<cs.length→w.cell? (a.add p)=some (U p)) (hR:∀p,p<cs.length→Rep w A μ H (U p) (cs.getD p .undef)):Rep w A μ H (.pointer (some a)) (.ptr cs)
 | nilp:Rep w A μ H (.pointer none) .nilp
 | fn (f:FuncId) (us:Array Value) (caps:List T) (hn:us.size=caps.length) (h:∀i,i<caps.length→Rep w A μ H (us.getD i Go.undef) (caps.getD i .undef)):Rep w A μ H (.func (.func f) #[] us) (.fn f caps)
 | nilfn:Rep w A μ H .nilFunc .nilfn
 | ref (id tot off:Nat) (b:Blk) (hb:H id=.live b) (ht:b.cs.length=tot):Rep w A μ H (.pointer (some ⟨μ id,off,none⟩)) (.ref id tot off)
 | refS (p:Addr) (id tot off:Nat) (h:qgN H id tot):Rep w A μ H (.pointer (some p)) (.ref id tot off)
 | sl (id tot e off n c:Nat) (b:Blk) (cur:Array Value) (hb:H id=.live b) (ht:b.cs.length=tot) (hcur:w.heap[μ id]? = some (.cells cur b.ty)) (hn:n≤c) (hm:c≤maxLen)
  (hc:off+c*esz e=cur.size) (hf:off+n*esz e≤tot):Rep w A μ H (.slice (some ⟨μ id,off,none⟩) n c) (.sl id tot e off n)
 | slS (p:Addr) (c:Nat) (id tot e off n:Nat) (hn:n≤c) (h:qgN H id tot):Rep w A μ H (.slice (some p) n c) (.sl id tot e off n)
 | mp (id:Nat) (es:List (T×T)) (h:H id=.map es):Rep w A μ H (.map (some (μ id))) (.mp id)
 | mpS (r:Option Nat) (id:Nat) (h:H id=.dead):Rep w A μ H (.map r) (.mp id)
 | nilmp:Rep w A μ H (.map none) .nilmp
def qrY:List (Nat×List T):=[(0,[.list [.str ⟨#[118,97,108,117,101,115]⟩,.str ⟨#[116,104,114,101,97,100]⟩,.str ⟨#[101,110,100]⟩]]),(1,[.str ⟨#[]⟩,.int .i64 0,.str ⟨#[115,101,116]⟩,.int .i64 1,.str ⟨#[119,104,101,110]⟩,.int .i64 1,.str ⟨#[106,117,109,112]⟩,.int .i64 2,.str ⟨#[109,97,121,98,101]⟩,.int .i64 2,.str ⟨#[115,112,97,119,110]⟩,.int .i64 3,.str ⟨#[115,116,111,112]⟩,.int .i64 0,.str ⟨#[102,97,105,108]⟩,.int .i64 0])]
def qcp (w:World)(A:Sta):Prop:=∀e∈qrY,Rep w A (fun _=>0) (fun _=>.free) (.pointer (some ⟨e.1,0,none⟩)) (.ptr e.2)
theorem Rep.keep {w w':World}{A A':Sta}{μ:Nat→Nat}{H:Heap}{v:Value}{x:T}(hf:∀i,H i=.free)(hst:∀b o,A b o→b<w.heap.size→A' b o∧w'.cell? ⟨b,o,none⟩=w.cell? ⟨b,o,none⟩)(h:Rep w A μ H v x):Rep w' A' μ H v x:=by
 have hcell:∀ {p:Addr} {u:Value},w.cell? p=some u→A p.block p.off→A' p.block p.off∧w'.cell? p=some u:=by
  intro p u hc ha
  have e:=qf3 hc
  have hb:=qco hc
  obtain⟨h1,h2⟩:=hst p.block p.off ha hb
  rw[←e] at h2
  exact⟨h1,by rw[h2];exact hc⟩
 induction h with
 | undef v=>exact .undef v
 | bool b=>exact .bool b
 | int k n=>exact .int k n
 | str s=>exact .str s
 | agg us cs hn h1 _ ih=>exact .agg us cs hn h1 ih
 | tup us vs hn _ ih=>exact .tup us vs hn ih
 | list a c k xs U hk hc h1 hA hU _ ih=>
  refine .list a c k xs U hk hc h1 (fun p hp=>?_) (fun p hp=>(hcell (hU p hp) (by rw[qbl,qcy];exact hA p hp)).2) ih
  have:=(hcell (hU p hp) (by rw[qbl,qcy];exact hA p hp)).1
  rwa [qbl,qcy] at this
 | lnil=>exact .lnil
 | nil=>exact .nil
 | emp p=>exact .emp p
 | ptr a cs U h1 hA hU _ ih=>
  refine .ptr a cs U h1 (fun p hp=>?_) (fun p hp=>(hcell (hU p hp) (by rw[qbl,qcy];exact hA p hp)).2) ih
  have:=(hcell (hU p hp) (by rw[qbl,qcy];exact hA p hp)).1
  rwa [qbl,qcy] at this
 | nilp=>exact .nilp
 | fn f us caps hn _ ih=>exact .fn f us caps hn ih
 | nilfn=>exact .nilfn
 | ref id tot off b hb ht=>rw[hf] at hb;cases hb
 | refS v id tot off hs=>rcases hs with hd | ⟨b,hb,_⟩<;>simp[hf] at*
 | sl id tot e off n c b cur hb=>rw[hf] at hb;cases hb
 | slS p c id tot e off n hn hs=>rcases hs with hd | ⟨b,hb,_⟩<;>simp[hf] at*
 | mp id es he=>rw[hf] at he;cases he
 | mpS v id hd=>rw[hf] at hd;cases hd
 | nilmp=>exact .nilmp
theorem qcp.keep {w w':World}{A A':Sta}(h:qcp w A)(hst:∀b o,A b o→b<w.heap.size→A' b o∧w'.cell? ⟨b,o,none⟩=w.cell? ⟨b,o,none⟩):qcp w' A':=fun e he=>(h e he).keep (fun _=>rfl) hst
structure Sim (w:World) (A:Sta) (μ:Nat→Nat) (H:Heap):Prop where
 inj:∀i j,(H i).owns=true→(H j).owns=true→μ i=μ j→i=j
 blk:∀i b,H i=.live b→∃cur,w.heap[μ i]? = some (.cells cur b.ty)∧b.cs.length≤cur.size∧Ones b.cs∧∀k,k<b.cs.length→Rep w A μ H (cur.getD k Go.undef) (b.cs.getD k .undef)
 map:∀i es,H i=.map es→∃ents clock,w.heap[μ i]? = some (.map ents clock)∧ents.size=es.length∧∀k,k<es.length→Rep w A μ H (ents.getD k default).key (es.getD k (.undef,.undef)).1∧Rep w A μ H (ents.getD k default).val (es.getD k (.undef,.undef)).2
 dis:∀i,(H i).owns=true→∀o,¬A (μ i) o
 sta:∀b o,A b o→b<w.heap.size
 glb:qcp w A
structure Trans (w:World) (A:Sta) (μ:Nat→Nat) (H:Heap) (w':World) (A':Sta) (μ':Nat→Nat) (H':Heap):Prop where
 os:w'.os=w.os
 tape:w'.tape=w.tape∧w.drawn≤w'.drawn
 output:w'.output=w.output
 size:w.heap.size≤w'.heap.size
 un:∀b,b<w.heap.size→(∀i,(H i).owns=true→μ i≠b)→w'.heap[b]? = w.heap[b]?∧∀i,(H' i).owns=true→μ' i≠b
 st:∀b o,A b o→b<w.heap.size→A' b o∧w'.cell? ⟨b,o,none⟩=w.cell? ⟨b,o,none⟩
 an:∀b o,A' b o→A b o∨w.heap.size≤b∨∃i,(H i).owns=true∧μ i=b
 own:∀i b,H i=.live b→H' i=.dead∨∃b',H' i=.live b'∧(b.cs.length<b'.cs.length∨b'.cs.length=b.cs.length∧μ' i=μ i∧b'.ty=b.ty∧∀cur,w.heap[μ i]? = some (.cells cur b.ty)→∃cur',w'.heap[μ i]? = some (.cells cur' b.ty)∧cur'.size=cur.size)
 map:∀i es,H i=.map es→H' i=.dead∨∃es',H' i=.map es'∧μ' i=μ i
 dead:∀i,H i=.dead→H' i=.dead
section
variable {w w' w'':World} {A A' A'':Sta} {μ μ' μ'':Nat→Nat} {H H' H'':Heap} {v:Value} {x:T}
theorem Trans.refl (w:World)(A:Sta)(μ:Nat→Nat)(H:Heap):Trans w A μ H w A μ H:=
 ⟨rfl,⟨rfl,Nat.le_refl _⟩,rfl,Nat.le_refl _,fun _ _ h=>⟨rfl,h⟩,fun _ _ h _=>⟨h,rfl⟩,fun _ _ h=>.inl h,
  fun i b h=>.inr ⟨b,h,.inr ⟨rfl,rfl,rfl,fun cur hc=>⟨cur,hc,rfl⟩⟩⟩,fun i es h=>.inr ⟨es,h,rfl⟩,fun _ h=>h⟩
theorem Trans.trans (h:Trans w A μ H w' A' μ' H')(k:Trans w' A' μ' H' w'' A'' μ'' H''):Trans w A μ H w'' A'' μ'' H'' where
 os:=k.os.trans h.os
 tape:=⟨k.tape.1.trans h.tape.1,Nat.le_trans h.tape.2 k.tape.2⟩
 output:=k.output.trans h.output
 size:=Nat.le_trans h.size k.size
 un b hb hn:=by
  obtain⟨h1,h2⟩:=h.un b hb hn
  obtain⟨k1,k2⟩:=k.un b (Nat.lt_of_lt_of_le hb h.size) h2
  exact⟨k1.trans h1,k2⟩
 st b o ha hb:=by
  obtain⟨h1,h2⟩:=h.st b o ha hb
  obtain⟨k1,k2⟩:=k.st b o h1 (Nat.lt_of_lt_of_le hb h.size)
  exact⟨k1,k2.trans h2⟩
 an b o ha:=by
  rcases k.an b o ha with h1 | h1 | ⟨i,hi,hb⟩
  ·exact h.an b o h1
  ·exact .inr (.inl (Nat.le_trans h.size h1))
  ·rcases Nat.lt_or_ge b w.heap.size with hlt | hge
   ·by_cases hex:∃i,(H i).owns=true∧μ i=b
    ·exact .inr (.inr hex)
    ·exact absurd hb ((h.un b hlt fun i hi hb=>hex ⟨i,hi,hb⟩).2 i hi)
   ·exact .inr (.inl hge)
 own i b hb:=by
  rcases h.own i b hb with hd | ⟨b',hb',h1⟩
  ·exact .inl (k.dead i hd)
  ·rcases k.own i b' hb' with hd | ⟨b'',hb'',h2⟩
   ·exact .inl hd
   ·refine .inr ⟨b'',hb'',?_⟩
    rcases h1 with h1 | ⟨h1,h1m,h1t,h1s⟩
    ·rcases h2 with h2 | ⟨h2,_⟩
     ·exact .inl (by omega)
     ·exact .inl (by omega)
    ·rcases h2 with h2 | ⟨h2,h2m,h2t,h2s⟩
     ·exact .inl (by omega)
     ·refine .inr ⟨by omega,h2m.trans h1m,h2t.trans h1t,fun cur hc=>?_⟩
      obtain⟨cur',hc',hs'⟩:=h1s cur hc
      rw[←h1m,←h1t] at hc'
      obtain⟨cur'',hc'',hs''⟩:=h2s cur' hc'
      rw[h1m,h1t] at hc''
      exact⟨cur'',hc'',hs''.trans hs'⟩
 map i es hb:=by
  rcases h.map i es hb with hd | ⟨es',he,hm⟩
  ·exact .inl (k.dead i hd)
  ·rcases k.map i es' he with hd | ⟨es'',he',hm'⟩
   ·exact .inl hd
   ·exact .inr ⟨es'',he',hm'.trans hm⟩
 dead i hd:=k.dead i (h.dead i hd)
theorem qgN.trans {id tot:Nat}(hs:qgN H id tot)(h:Trans w A μ H w' A' μ' H'):qgN H' id tot:=by
 rcases hs with hd | ⟨b,hb,hl⟩
 ·exact .inl (h.dead _ hd)
 ·rcases h.own _ _ hb with hd | ⟨b',hb',h1⟩
  ·exact .inl hd
  ·refine .inr ⟨b',hb',?_⟩
   rcases h1 with h1 | ⟨h1,_⟩<;>omega
theorem Trans.cell (h:Trans w A μ H w' A' μ' H'){p:Addr}{u:Value}(hc:w.cell? p=some u)(ha:A p.block p.off):w'.cell? p=some u:=by
 have e:=qf3 hc
 have hb:=qco hc
 have h2:=(h.st p.block p.off ha hb).2
 rw[←e] at h2
 rw[h2]
 exact hc
theorem Rep.trans (hr:Rep w A μ H v x)(h:Trans w A μ H w' A' μ' H'):Rep w' A' μ' H' v x:=by
 induction hr with
 | undef v=>exact .undef v
 | bool b=>exact .bool b
 | int k n=>exact .int k n
 | str s=>exact .str s
 | agg us cs hn h1 _ ih=>exact .agg us cs hn h1 ih
 | tup us vs hn _ ih=>exact .tup us vs hn ih
 | list a c k xs U hk hc h1 hA hU _ ih=>
  refine .list a c k xs U hk hc h1 (fun p hp=>?_) (fun p hp=>h.cell (hU p hp) ?_) ih
  ·have:=qco (hU p hp)
   rw[qbl] at this
   exact (h.st a.block (a.off+p) (hA p hp) this).1
  ·rw[qbl,qcy];exact hA p hp
 | lnil=>exact .lnil
 | nil=>exact .nil
 | emp p=>exact .emp p
 | ptr a cs U h1 hA hU _ ih=>
  refine .ptr a cs U h1 (fun p hp=>?_) (fun p hp=>h.cell (hU p hp) ?_) ih
  ·have:=qco (hU p hp)
   rw[qbl] at this
   exact (h.st a.block (a.off+p) (hA p hp) this).1
  ·rw[qbl,qcy];exact hA p hp
 | nilp=>exact .nilp
 | fn f us caps hn _ ih=>exact .fn f us caps hn ih
 | nilfn=>exact .nilfn
 | ref id tot off b hb ht=>
  rcases h.own id b hb with hd | ⟨b',hb',h1 | ⟨h1,h2,_⟩⟩
  ·exact .refS _ _ _ _ (.inl hd)
  ·exact .refS _ _ _ _ (.inr ⟨b',hb',by omega⟩)
  ·rw[←h2];exact .ref id tot off b' hb' (by omega)
 | refS v id tot off hs=>exact .refS _ _ _ _ (hs.trans h)
 | sl id tot e off n c b cur hb ht hcur hn hm hc hf=>
  rcases h.own id b hb with hd | ⟨b',hb',h1 | ⟨h1,h2,h3,h4⟩⟩
  ·exact .slS _ _ _ _ _ _ _ hn (.inl hd)
  ·exact .slS _ _ _ _ _ _ _ hn (.inr ⟨b',hb',by omega⟩)
  ·obtain⟨cur',hc',hs'⟩:=h4 cur hcur
   rw[←h2]
   rw[←h2,←h3] at hc'
   exact .sl id tot e off n c b' cur' hb' (by omega) hc' hn hm (by omega) hf
 | slS p c id tot e off n hn hs=>exact .slS _ _ _ _ _ _ _ hn (hs.trans h)
 | mp id es he=>
  rcases h.map id es he with hd | ⟨es',he',hm⟩
  ·exact .mpS _ _ hd
  ·rw[←hm];exact .mp id es' he'
 | mpS v id hd=>exact .mpS _ _ (h.dead _ hd)
 | nilmp=>exact .nilmp
theorem qcp.trans (g:qcp w A)(h:Trans w A μ H w' A' μ' H'):qcp w' A':=g.keep h.st
theorem Rep.one (h:Rep w A μ H v x)(hx:x.one=true):v.oneCell'=true:=by
 cases h<;>first | rfl | (simp[T.one] at hx)
end
mutual
def T.cl (D:Nat→Bool):T→Bool
 | .agg cs=>clL D cs
 | .tup vs=>clL D vs
 | .list xs=>clL D xs
 | .ptr cs=>clL D cs
 | .fn _ cs=>clL D cs
 | .ref id _ _=>D id
 | .sl id _ _ _ _=>D id
 | .mp id=>D id
 | _=>true
def clL (D:Nat→Bool):List T→Bool
 | []=>true
 | x::xs=>x.cl D&&clL D xs
end
abbrev T.fro (x:T):Bool:=x.cl fun _=>false
abbrev froL (xs:List T):Bool:=clL (fun _=>false) xs
theorem qi9 {D:Nat→Bool}:∀ {xs:List T},clL D xs=true↔∀x∈xs,x.cl D=true
 | []=>by simp[clL]
 | x::xs=>by simp[clL,qi9 (xs:=xs)]
theorem qbk {D:Nat→Bool}{xs:List T}(h:clL D xs=true)(i:Nat):(xs.getD i .undef).cl D=true:=by
 rcases Nat.lt_or_ge i xs.length with hi | hi
 ·rw[List.getD_eq_getElem?_getD,List.getElem?_eq_getElem hi]
  exact qi9.1 h _ (List.getElem_mem hi)
 ·rw[List.getD_eq_getElem?_getD,List.getElem?_eq_none hi]
  simp[T.cl]
theorem qab {D:Nat→Bool}{xs ys:List T}:clL D (xs++ys)=(clL D xs&&clL D ys):=by
 rw[Bool.eq_iff_iff,Bool.and_eq_true]
 simp only[qi9,List.mem_append]
 exact⟨fun h=>⟨fun x hx=>h x (.inl hx),fun x hx=>h x (.inr hx)⟩,fun h x hx=>hx.elim (h.1 x) (h.2 x)⟩
theorem qry {D:Nat→Bool}{x:T}(h:x.cl D=true):clL D x.cells=true:=by
 cases x<;>simp_all[T.cells,T.cl,clL]
theorem qmc {D:Nat→Bool}:∀ {xs:List T},clL D xs=true→clL D (flat xs)=true
 | [],_=>by simp[flat,clL]
 | x::xs,h=>by
  simp only[clL,Bool.and_eq_true] at h
  rw[qbH,qab,qry h.1,qmc h.2]
  rfl
mutual
theorem T.cl_mono {D D':Nat→Bool}(hD:∀i,D i=true→D' i=true):∀x:T,x.cl D=true→x.cl D'=true
 | .agg cs,h=>by simp only[T.cl] at *;exact qdm hD cs h
 | .tup cs,h=>by simp only[T.cl] at *;exact qdm hD cs h
 | .list cs,h=>by simp only[T.cl] at *;exact qdm hD cs h
 | .ptr cs,h=>by simp only[T.cl] at *;exact qdm hD cs h
 | .fn _ cs,h=>by simp only[T.cl] at *;exact qdm hD cs h
 | .ref ..,h=>by simp only[T.cl] at *;exact hD _ h
 | .sl ..,h=>by simp only[T.cl] at *;exact hD _ h
 | .mp ..,h=>by simp only[T.cl] at *;exact hD _ h
 | .undef,_=>rfl
 | .bool _,_=>rfl
 | .int ..,_=>rfl
 | .str _,_=>rfl
 | .nil,_=>rfl
 | .emp,_=>rfl
 | .nilp,_=>rfl
 | .nilfn,_=>rfl
 | .nilmp,_=>rfl
theorem qdm {D D':Nat→Bool}(hD:∀i,D i=true→D' i=true):∀xs:List T,clL D xs=true→clL D' xs=true
 | [],_=>rfl
 | x::xs,h=>by
  simp only[clL,Bool.and_eq_true] at*
  exact⟨T.cl_mono hD x h.1,qdm hD xs h.2⟩
end
section
variable {w w':World} {A A':Sta} {μ μ':Nat→Nat} {H H':Heap} {v:Value} {x:T} {D:Nat→Bool}
theorem Rep.sub (h:Rep w A μ H v x)(hx:x.cl D=true)(hD:∀i,D i=true→H' i=H i):Rep w A μ H' v x:=by
 induction h with
 | undef v=>exact .undef v
 | bool b=>exact .bool b
 | int k n=>exact .int k n
 | str s=>exact .str s
 | agg us cs hn h1 _ ih=>exact .agg us cs hn h1 fun i hi=>ih i hi (qbk (by simpa [T.cl] using hx) i)
 | tup us vs hn _ ih=>exact .tup us vs hn fun i hi=>ih i hi (qbk (by simpa [T.cl] using hx) i)
 | list a c k xs U hk hc h1 hA hU _ ih=>exact .list a c k xs U hk hc h1 hA hU fun p hp=>ih p hp (qbk (qmc (by simpa [T.cl] using hx)) p)
 | lnil=>exact .lnil
 | nil=>exact .nil
 | emp p=>exact .emp p
 | ptr a cs U h1 hA hU _ ih=>exact .ptr a cs U h1 hA hU fun p hp=>ih p hp (qbk (by simpa [T.cl] using hx) p)
 | nilp=>exact .nilp
 | fn f us caps hn _ ih=>exact .fn f us caps hn fun i hi=>ih i hi (qbk (by simpa [T.cl] using hx) i)
 | nilfn=>exact .nilfn
 | ref id tot off b hb ht=>exact .ref id tot off b ((hD _ (by simpa [T.cl] using hx)).trans hb) ht
 | refS p id tot off hs=>exact .refS _ _ _ _ (by unfold qgN at *;rw[hD _ (by simpa [T.cl] using hx)];exact hs)
 | sl id tot e off n c b cur hb ht hcur hn hm hc hf=>exact .sl id tot e off n c b cur ((hD _ (by simpa [T.cl] using hx)).trans hb) ht hcur hn hm hc hf
 | slS p c id tot e off n hn hs=>exact .slS _ _ _ _ _ _ _ hn (by unfold qgN at *;rw[hD _ (by simpa [T.cl] using hx)];exact hs)
 | mp id es he=>exact .mp id es ((hD _ (by simpa [T.cl] using hx)).trans he)
 | mpS v id hd=>exact .mpS _ _ ((hD _ (by simpa [T.cl] using hx)).trans hd)
 | nilmp=>exact .nilmp
theorem Rep.ext (h:Rep w A μ H v x)(hH:∀i,H i≠.free→H' i=H i∧μ' i=μ i):Rep w A μ' H' v x:=by
 induction h with
 | undef v=>exact .undef v
 | bool b=>exact .bool b
 | int k n=>exact .int k n
 | str s=>exact .str s
 | agg us cs hn h1 _ ih=>exact .agg us cs hn h1 ih
 | tup us vs hn _ ih=>exact .tup us vs hn ih
 | list a c k xs U hk hc h1 hA hU _ ih=>exact .list a c k xs U hk hc h1 hA hU ih
 | lnil=>exact .lnil
 | nil=>exact .nil
 | emp p=>exact .emp p
 | ptr a cs U h1 hA hU _ ih=>exact .ptr a cs U h1 hA hU ih
 | nilp=>exact .nilp
 | fn f us caps hn _ ih=>exact .fn f us caps hn ih
 | nilfn=>exact .nilfn
 | ref id tot off b hb ht=>
  obtain⟨h1,h2⟩:=hH id (by simp[hb])
  rw[←h2];exact .ref id tot off b (h1.trans hb) ht
 | refS p id tot off hs=>
  refine .refS _ _ _ _ ?_
  rcases hs with hd | ⟨b,hb,hl⟩
  ·exact .inl ((hH id (by simp[hd])).1.trans hd)
  ·exact .inr ⟨b,(hH id (by simp[hb])).1.trans hb,hl⟩
 | sl id tot e off n c b cur hb ht hcur hn hm hc hf=>
  obtain⟨h1,h2⟩:=hH id (by simp[hb])
  rw[←h2] at hcur ⊢;exact .sl id tot e off n c b cur (h1.trans hb) ht hcur hn hm hc hf
 | slS p c id tot e off n hn hs=>
  refine .slS _ _ _ _ _ _ _ hn ?_
  rcases hs with hd | ⟨b,hb,hl⟩
  ·exact .inl ((hH id (by simp[hd])).1.trans hd)
  ·exact .inr ⟨b,(hH id (by simp[hb])).1.trans hb,hl⟩
 | mp id es he=>
  obtain⟨h1,h2⟩:=hH id (by simp[he])
  rw[←h2];exact .mp id es (h1.trans he)
 | mpS v id hd=>exact .mpS _ _ ((hH id (by simp[hd])).1.trans hd)
 | nilmp=>exact .nilmp
theorem Rep.more (h:Rep w A μ H v x)(hA:∀b o,A b o→A' b o):Rep w A' μ H v x:=by
 induction h with
 | undef v=>exact .undef v
 | bool b=>exact .bool b
 | int k n=>exact .int k n
 | str s=>exact .str s
 | agg us cs hn h1 _ ih=>exact .agg us cs hn h1 ih
 | tup us vs hn _ ih=>exact .tup us vs hn ih
 | list a c k xs U hk hc h1 hB hU _ ih=>exact .list a c k xs U hk hc h1 (fun p hp=>hA _ _ (hB p hp)) hU ih
 | lnil=>exact .lnil
 | nil=>exact .nil
 | emp p=>exact .emp p
 | ptr a cs U h1 hB hU _ ih=>exact .ptr a cs U h1 (fun p hp=>hA _ _ (hB p hp)) hU ih
 | nilp=>exact .nilp
 | fn f us caps hn _ ih=>exact .fn f us caps hn ih
 | nilfn=>exact .nilfn
 | ref id tot off b hb ht=>exact .ref id tot off b hb ht
 | refS p id tot off hs=>exact .refS _ _ _ _ hs
 | sl id tot e off n c b cur hb ht hcur hn hm hc hf=>exact .sl id tot e off n c b cur hb ht hcur hn hm hc hf
 | slS p c id tot e off n hn hs=>exact .slS _ _ _ _ _ _ _ hn hs
 | mp id es he=>exact .mp id es he
 | mpS v id hd=>exact .mpS _ _ hd
 | nilmp=>exact .nilmp
end
def Reps (w:World)(A:Sta)(μ:Nat→Nat)(H:Heap)(vs:Array Value)(xs:List T):Prop:=
 vs.size=xs.length∧∀i,i<xs.length→Rep w A μ H (vs.getD i Go.undef) (xs.getD i .undef)
def Enters (P:Program)(f:FuncId):Prop:=∀args w,(callFunc f args).run P w=.ok (.enter f args) w
def TC (P:Program)(f:FuncId)(args:List T)(H:Heap)(r:T)(H':Heap):Prop:=
 Enters P f∧∀(w:World) (A:Sta) (μ:Nat→Nat) (vs:Array Value),Sim w A μ H→Reps w A μ H vs args→
  Calls P f vs w fun e w'=>∃v A' μ',e=.returned v∧Rep w' A' μ' H' v r∧Sim w' A' μ' H'∧Trans w A μ H w' A' μ' H'
def Slot.here:Slot→Bool
 | .free=>false
 | _=>true
structure Within (Hc H Hc':Heap):Prop where
 sub:∀i,Hc i≠.free→H i=Hc i
 new:∀i,Hc i=.free→Hc' i≠.free→H i=.free
 cl:∀i b,Hc i=.live b→clL (fun i=>(Hc i).here) b.cs=true
 clm:∀i es,Hc i=.map es→∀e∈es,e.1.cl (fun i=>(Hc i).here)=true∧e.2.cl (fun i=>(Hc i).here)=true
def Heap.over (Hc' H:Heap):Heap:=fun i=>match Hc' i with | .free=>H i | s=>s
theorem Heap.over_free {Hc' H:Heap}{i:Nat}(h:Hc' i=.free):Heap.over Hc' H i=H i:=by simp[Heap.over,h]
theorem Heap.over_some {Hc' H:Heap}{i:Nat}(h:Hc' i≠.free):Heap.over Hc' H i=Hc' i:=by
 unfold Heap.over
 cases hs:Hc' i<;>simp_all
theorem Trans.dom {w w':World}{A A':Sta}{μ μ':Nat→Nat}{H H':Heap}(h:Trans w A μ H w' A' μ' H'){i:Nat}(hi:H i≠.free):H' i≠.free:=by
 cases hs:H i with
 | free=>exact absurd hs hi
 | live b=>rcases h.own i b hs with h1 | ⟨b',h1,_⟩<;>simp[h1]
 | map es=>rcases h.map i es hs with h1 | ⟨b',h1,_⟩<;>simp[h1]
 | dead=>simp[h.dead i hs]
theorem Slot.ne_free {s:Slot}(h:s.owns=true):s≠.free:=by cases s<;>simp_all[Slot.owns]
section
variable {w w':World} {A A':Sta} {μ μc:Nat→Nat} {H Hc Hc':Heap}
theorem Sim.sub (hw:Within Hc H Hc')(h:Sim w A μ H):Sim w A μ Hc where
 inj i j hi hj:=h.inj i j (by rw[hw.sub i (Slot.ne_free hi)];exact hi) (by rw[hw.sub j (Slot.ne_free hj)];exact hj)
 blk i b hb:=by
  obtain⟨cur,h1,h2,h3,h4⟩:=h.blk i b ((hw.sub i (by simp[hb])).trans hb)
  refine⟨cur,h1,h2,h3,fun k hk=>(h4 k hk).sub (qbk (hw.cl i b hb) k) fun j hj=>?_⟩
  refine (hw.sub j ?_).symm
  intro hf;simp[hf,Slot.here] at hj
 map i es he:=by
  obtain⟨ents,cl,h1,h2,h3⟩:=h.map i es ((hw.sub i (by simp[he])).trans he)
  refine⟨ents,cl,h1,h2,fun k hk=>?_⟩
  have hm:=hw.clm i es he (es.getD k (.undef,.undef)) (by
   rw[List.getD_eq_getElem?_getD,List.getElem?_eq_getElem hk];exact List.getElem_mem hk)
  have hs:∀j,(Hc j).here=true→Hc j=H j:=fun j hj=>(hw.sub j (by intro hf;simp[hf,Slot.here] at hj)).symm
  exact⟨(h3 k hk).1.sub hm.1 hs,(h3 k hk).2.sub hm.2 hs⟩
 dis i hi:=h.dis i (by rw[hw.sub i (Slot.ne_free hi)];exact hi)
 sta:=h.sta
 glb:=h.glb
theorem qhu (hw:Within Hc H Hc')(h:Sim w A μ H)(ht:Trans w A μ Hc w' A' μc Hc') :
 Trans w A μ H w' A' (fun i=>match Hc' i with | .free=>μ i | _=>μc i) (Heap.over Hc' H):=by
 have hsub:∀i,(Hc i).owns=true→(H i).owns=true:=fun i hi=>by rw[hw.sub i (Slot.ne_free hi)];exact hi
 have hout:∀i,Hc' i=.free→Hc i=.free:=fun i hi=>by
  cases hs:Hc i with
  | free=>rfl
  | _=>exact absurd hi (ht.dom (by simp[hs]))
 have hin:∀i,Hc' i≠.free→(match Hc' i with | .free=>μ i | _=>μc i)=μc i:=fun i hi=>by cases hs:Hc' i<;>simp_all
 have hnot:∀j,(H j).owns=true→Hc' j=.free→∀i,(Hc i).owns=true→μ i≠μ j:=fun j hj hf i hi he=>by
  have:=h.inj i j (hsub i hi) hj he
  subst this
  exact absurd (hout _ hf) (Slot.ne_free hi)
 refine⟨ht.os,ht.tape,ht.output,ht.size,?_,ht.st,?_,?_,?_,?_⟩
 ·intro b hb hn
  obtain⟨h1,h2⟩:=ht.un b hb fun i hi=>hn i (hsub i hi)
  refine⟨h1,fun i hi=>?_⟩
  by_cases hf:Hc' i=.free
  ·rw[Heap.over_free hf] at hi
   simp only[hf]
   exact hn i hi
  ·rw[Heap.over_some hf] at hi
   simp only
   exact h2 i hi
 ·intro b o ha
  rcases ht.an b o ha with h1 | h1 | ⟨i,hi,hb⟩
  ·exact .inl h1
  ·exact .inr (.inl h1)
  ·exact .inr (.inr ⟨i,hsub i hi,hb⟩)
 ·intro i b hb
  by_cases hf:Hc' i=.free
  ·obtain⟨cur,hc,_⟩:=h.blk i b hb
   have hun:=(ht.un (μ i) (qbu hc) (hnot i (by simp[hb,Slot.owns]) hf)).1
   exact .inr ⟨b,by rw[Heap.over_free hf,hb],.inr ⟨rfl,by simp[hf],rfl,fun cur hc=>⟨cur,hun.trans hc,rfl⟩⟩⟩
  ·have hci:Hc i=.live b:=by
    cases hs:Hc i with
    | free=>exact absurd (hw.new i hs hf) (by simp[hb])
    | _=>rw[←hs,←hw.sub i (by simp[hs]),hb]
   rw[Heap.over_some hf]
   rcases ht.own i b hci with h1 | ⟨b',h1,h2⟩
   ·exact .inl h1
   ·refine .inr ⟨b',h1,?_⟩
    rcases h2 with h2 | ⟨h2,h3,h4⟩
    ·exact .inl h2
    ·exact .inr ⟨h2,by simp only;exact h3,h4⟩
 ·intro i es hb
  by_cases hf:Hc' i=.free
  ·exact .inr ⟨es,by rw[Heap.over_free hf,hb],by simp[hf]⟩
  ·have hci:Hc i=.map es:=by
    cases hs:Hc i with
    | free=>exact absurd (hw.new i hs hf) (by simp[hb])
    | _=>rw[←hs,←hw.sub i (by simp[hs]),hb]
   rw[Heap.over_some hf]
   rcases ht.map i es hci with h1 | ⟨b',h1,h2⟩
   ·exact .inl h1
   ·exact .inr ⟨b',h1,by simp only;exact h2⟩
 ·intro i hd
  by_cases hf:Hc' i=.free
  ·rw[Heap.over_free hf,hd]
  ·have hci:Hc i=.dead:=by
    cases hs:Hc i with
    | free=>exact absurd (hw.new i hs hf) (by simp[hd])
    | _=>rw[←hs,←hw.sub i (by simp[hs]),hd]
   rw[Heap.over_some hf]
   exact ht.dead i hci
theorem qpi (hw:Within Hc H Hc')(h:Sim w A μ H)(ht:Trans w A μ Hc w' A' μc Hc')(hs:Sim w' A' μc Hc') :
 Sim w' A' (fun i=>match Hc' i with | .free=>μ i | _=>μc i) (Heap.over Hc' H):=by
 have hT:=qhu hw h ht
 have hsub:∀i,(Hc i).owns=true→(H i).owns=true:=fun i hi=>by rw[hw.sub i (Slot.ne_free hi)];exact hi
 have hout:∀i,Hc' i=.free→Hc i=.free:=fun i hi=>by
  cases hs:Hc i with
  | free=>rfl
  | _=>exact absurd hi (ht.dom (by simp[hs]))
 have hin:∀i,Hc' i≠.free→(match Hc' i with | .free=>μ i | _=>μc i)=μc i:=fun i hi=>by cases hs:Hc' i<;>simp_all
 have hnot:∀j,(H j).owns=true→Hc' j=.free→∀i,(Hc i).owns=true→μ i≠μ j:=fun j hj hf i hi he=>by
  have:=h.inj i j (hsub i hi) hj he
  subst this
  exact absurd (hout _ hf) (Slot.ne_free hi)
 have hlt:∀j,(H j).owns=true→μ j<w.heap.size:=fun j hj=>by
  cases hs:H j with
  | live b=>obtain⟨cur,hc,_⟩:=h.blk j b hs;exact qbu hc
  | map es=>obtain⟨ents,cl,hc,_⟩:=h.map j es hs;exact qbu hc
  | _=>simp[hs,Slot.owns] at hj
 have hsame:∀j,(H j).owns=true→Hc' j=.free→w'.heap[μ j]? = w.heap[μ j]?∧∀i,(Hc' i).owns=true→μc i≠μ j:=fun j hj hf=>
  ht.un (μ j) (hlt j hj) (hnot j hj hf)
 have hext:∀i,Hc' i≠.free→Heap.over Hc' H i=Hc' i∧(match Hc' i with | .free=>μ i | _=>μc i)=μc i:=fun i hi=>⟨Heap.over_some hi,hin i hi⟩
 refine⟨?_,?_,?_,?_,hs.sta,hs.glb⟩
 ·intro i j hi hj he
  by_cases hf:Hc' i=.free<;>by_cases hg:Hc' j=.free
  ·rw[Heap.over_free hf] at hi;rw[Heap.over_free hg] at hj
   simp only[hf,hg] at he
   exact h.inj i j hi hj he
  ·rw[Heap.over_free hf] at hi;rw[Heap.over_some hg] at hj
   simp only[hf] at he
   exact absurd he.symm ((hsame i hi hf).2 j hj)
  ·rw[Heap.over_some hf] at hi;rw[Heap.over_free hg] at hj
   simp only[hg] at he
   exact absurd he ((hsame j hj hg).2 i hi)
  ·rw[Heap.over_some hf] at hi;rw[Heap.over_some hg] at hj
   simp only at he
   exact hs.inj i j hi hj he
 ·intro i b hb
  by_cases hf:Hc' i=.free
  ·rw[Heap.over_free hf] at hb
   obtain⟨cur,h1,h2,h3,h4⟩:=h.blk i b hb
   refine⟨cur,?_,h2,h3,fun k hk=>(h4 k hk).trans hT⟩
   simp only[hf]
   exact (hsame i (by simp[hb,Slot.owns]) hf).1.trans h1
  ·rw[Heap.over_some hf] at hb
   obtain⟨cur,h1,h2,h3,h4⟩:=hs.blk i b hb
   refine⟨cur,?_,h2,h3,fun k hk=>(h4 k hk).ext hext⟩
   simp only
   exact h1
 ·intro i es hb
  by_cases hf:Hc' i=.free
  ·rw[Heap.over_free hf] at hb
   obtain⟨ents,cl,h1,h2,h3⟩:=h.map i es hb
   refine⟨ents,cl,?_,h2,fun k hk=>⟨(h3 k hk).1.trans hT,(h3 k hk).2.trans hT⟩⟩
   simp only[hf]
   exact (hsame i (by simp[hb,Slot.owns]) hf).1.trans h1
  ·rw[Heap.over_some hf] at hb
   obtain⟨ents,cl,h1,h2,h3⟩:=hs.map i es hb
   refine⟨ents,cl,?_,h2,fun k hk=>⟨(h3 k hk).1.ext hext,(h3 k hk).2.ext hext⟩⟩
   simp only
   exact h1
 ·intro i hi o ha
  by_cases hf:Hc' i=.free
  ·rw[Heap.over_free hf] at hi
   simp only[hf] at ha
   rcases ht.an _ _ ha with h1 | h1 | ⟨k,hk,he⟩
   ·exact h.dis i hi _ h1
   ·have:=hlt i hi;omega
   ·exact hnot i hi hf k hk he
  ·rw[Heap.over_some hf] at hi
   simp only at ha
   exact hs.dis i hi o ha
end
theorem TC.frame {P:Program}{f:FuncId}{args:List T}{Hc H Hc':Heap}{r:T}(h:TC P f args Hc r Hc')(hw:Within Hc H Hc')
 (ha:clL (fun i=>(Hc i).here) args=true):TC P f args H r (Heap.over Hc' H):=by
 refine⟨h.1,fun w A μ vs hS hR=>?_⟩
 have hs:∀j,(Hc j).here=true→Hc j=H j:=fun j hj=>(hw.sub j (by intro hf;simp[hf,Slot.here] at hj)).symm
 refine (h.2 w A μ vs (hS.sub hw) ⟨hR.1,fun i hi=>(hR.2 i hi).sub (qbk ha i) hs⟩).mono ?_
 rintro e w' ⟨v,A',μc,rfl,hr,hS',hT⟩
 refine⟨v,A',_,rfl,hr.ext fun i hi=>⟨Heap.over_some hi,?_⟩,qpi hw hS hT hS',qhu hw hS hT⟩
 cases hs:Hc' i<;>simp_all
def Heap.set (H:Heap)(id:Nat)(s:Slot):Heap:=fun i=>if i=id then s else H i
theorem Heap.set_same (H:Heap)(id:Nat)(s:Slot):H.set id s id=s:=by simp[Heap.set]
theorem Heap.set_other (H:Heap){id i:Nat}(s:Slot)(h:i≠id):H.set id s i=H i:=by simp[Heap.set,h]
def setMu (μ:Nat→Nat)(id g:Nat):Nat→Nat:=fun i=>if i=id then g else μ i
section
variable {w w':World} {A:Sta} {μ:Nat→Nat} {H:Heap}
theorem Sim.lt (h:Sim w A μ H){i:Nat}(hi:(H i).owns=true):μ i<w.heap.size:=by
 cases hs:H i with
 | live b=>obtain⟨cur,hc,_⟩:=h.blk i b hs;exact qbu hc
 | map es=>obtain⟨ents,cl,hc,_⟩:=h.map i es hs;exact qbu hc
 | _=>simp[hs,Slot.owns] at hi
theorem qft {id g:Nat}{ty:TypeId}{cs:List T}{cur:Array Value}(hS:Sim w A μ H)
 (hos:w'.os=w.os) (htape:w'.tape=w.tape∧w.drawn≤w'.drawn) (hout:w'.output=w.output) (hsize:w.heap.size≤w'.heap.size)
 (hsame:∀b,b<w.heap.size→((H id).owns=true→b≠μ id)→w'.heap[b]? = w.heap[b]?)
 (hg:w'.heap[g]? = some (.cells cur ty))
 (hgo:w.heap.size≤g∨((H id).owns=true∧g=μ id))
 (hok:H id=.free∨∃b,H id=.live b∧(b.cs.length<cs.length∨cs.length=b.cs.length∧g=μ id∧ty=b.ty∧∀c0,w.heap[μ id]? = some (.cells c0 b.ty)→cur.size=c0.size))
 (hl:cs.length≤cur.size) (h1:Ones cs) (hR:∀k,k<cs.length→Rep w A μ H (cur.getD k Go.undef) (cs.getD k .undef)) :
 Trans w A μ H w' A (setMu μ id g) (H.set id (.live ⟨ty,cs⟩))∧Sim w' A (setMu μ id g) (H.set id (.live ⟨ty,cs⟩)):=by
 have hne:∀i,i≠id→setMu μ id g i=μ i:=fun i hi=>by simp[setMu,hi]
 have hid:setMu μ id g id=g:=by simp[setMu]
 have hsm:∀i,(H i).owns=true→i≠id→w'.heap[μ i]? = w.heap[μ i]?:=fun i hi hn=>
  hsame _ (hS.lt hi) fun ho he=>hn (hS.inj i id hi ho he)
 have hT:Trans w A μ H w' A (setMu μ id g) (H.set id (.live ⟨ty,cs⟩)):=by
  refine⟨hos,htape,hout,hsize,?_,?_,fun _ _ h=>.inl h,?_,?_,?_⟩
  ·intro b hb hn
   refine⟨hsame b hb fun ho he=>hn id ho he.symm,fun i hi=>?_⟩
   by_cases e:i=id
   ·subst e
    rw[hid]
    rcases hgo with h | ⟨ho,h⟩
    ·omega
    ·rw[h];exact hn _ ho
   ·rw[hne i e]
    rw[Heap.set_other _ _ e] at hi
    exact hn i hi
  ·intro b o ha hb
   refine⟨ha,?_⟩
   have:=hsame b hb fun ho he=>hS.dis id ho o (he▸ha)
   simp[World.cell?,this]
  ·intro i b hb
   by_cases e:i=id
   ·subst e
    rw[Heap.set_same]
    rcases hok with h | ⟨b0,h0,h⟩
    ·simp[hb] at h
    ·rw[hb] at h0
     injection h0 with h0
     subst h0
     refine .inr ⟨_,rfl,?_⟩
     rcases h with h | ⟨ha,hb',hc,hd⟩
     ·exact .inl h
     ·refine .inr ⟨ha,by rw[hid,hb'],hc,fun c0 h0=>⟨cur,?_,hd c0 h0⟩⟩
      rw[←hb',←hc];exact hg
   ·rw[Heap.set_other _ _ e]
    refine .inr ⟨b,hb,.inr ⟨rfl,hne i e,rfl,fun c0 h0=>⟨c0,?_,rfl⟩⟩⟩
    rw[hsm i (by simp[hb,Slot.owns]) e];exact h0
  ·intro i es hb
   have e:i≠id:=fun e=>by
    subst e
    rcases hok with h | ⟨b0,h0,_⟩<;>simp_all
   rw[Heap.set_other _ _ e]
   exact .inr ⟨es,hb,hne i e⟩
  ·intro i hd
   have e:i≠id:=fun e=>by
    subst e
    rcases hok with h | ⟨b0,h0,_⟩<;>simp_all
   rw[Heap.set_other _ _ e]
   exact hd
 refine⟨hT,?_,?_,?_,?_,(fun b o ha=>Nat.lt_of_lt_of_le (hS.sta b o ha) hsize),hS.glb.trans hT⟩
 ·intro i j hi hj he
  have key:∀i,i≠id→(H.set id (.live ⟨ty,cs⟩) i).owns=true→setMu μ id g i=setMu μ id g id→False:=fun i e hi he=>by
   rw[Heap.set_other _ _ e] at hi
   rw[hne i e,hid] at he
   rcases hgo with h | ⟨ho,h⟩
   ·have:=hS.lt hi;omega
   ·rw[h] at he;exact e (hS.inj i id hi ho he)
  by_cases e:i=id<;>by_cases e':j=id
  ·rw[e,e']
  ·exact (key j e' hj (by rw[←he,e])).elim
  ·exact (key i e hi (by rw[he,e'])).elim
  ·rw[Heap.set_other _ _ e] at hi
   rw[Heap.set_other _ _ e'] at hj
   rw[hne i e,hne j e'] at he
   exact hS.inj i j hi hj he
 ·intro i b hb
  by_cases e:i=id
  ·subst e
   rw[Heap.set_same] at hb
   injection hb with hb
   subst hb
   exact⟨cur,by rw[hid];exact hg,hl,h1,fun k hk=>(hR k hk).trans hT⟩
  ·rw[Heap.set_other _ _ e] at hb
   obtain⟨c0,a1,a2,a3,a4⟩:=hS.blk i b hb
   exact⟨c0,by rw[hne i e,hsm i (by simp[hb,Slot.owns]) e];exact a1,a2,a3,fun k hk=>(a4 k hk).trans hT⟩
 ·intro i es hb
  by_cases e:i=id
  ·subst e;rw[Heap.set_same] at hb;cases hb
  ·rw[Heap.set_other _ _ e] at hb
   obtain⟨c0,cl,a1,a2,a3⟩:=hS.map i es hb
   exact⟨c0,cl,by rw[hne i e,hsm i (by simp[hb,Slot.owns]) e];exact a1,a2,fun k hk=>⟨(a3 k hk).1.trans hT,(a3 k hk).2.trans hT⟩⟩
 ·intro i hi o ha
  by_cases e:i=id
  ·subst e
   rw[hid] at ha
   rcases hgo with h | ⟨ho,h⟩
   ·have:=hS.sta _ _ ha;omega
   ·rw[h] at ha;exact hS.dis _ ho o ha
  ·rw[hne i e] at ha
   rw[Heap.set_other _ _ e] at hi
   exact hS.dis i hi o ha
end
def mkEl (e:Nat)(cs:List T):T:=if e=0 then cs.getD 0 .undef else .agg cs
def splice (xs:List T)(off:Nat)(cs:List T):List T:=xs.take off++cs++xs.drop (off+cs.length)
inductive Req where
 | val (v:T)
 | new (ty:TypeId) (cs:List T) (ptr:Bool) (e n:Nat)
 | load (e id tot off:Nat)
 | store (id tot off:Nat) (cs:List T)
 | grow (ty id tot e n m:Nat) (cs:List T)
 | growOf (ty id tot e n:Nat) (id' tot' off m:Nat)
 | newOf (ty e:Nat) (id' tot' off m:Nat)
 | bytes (id tot off n:Nat)
 | newMap
 | look (id:Nat) (k z:T) (ok:Bool)
 | mset (id:Nat) (k v:T)
def qc4:List T→Option (List Int)
 | []=>some []
 | .int .u8 n::l=>(qc4 l).map (n::·)
 | _=>none
def qkg (ns:List Int):ByteArray:=ns.foldl (fun r n=>r.push (UInt8.ofNat n.toNat)) ByteArray.empty
def qnU:T→T→Option Bool
 | .str a,.str b=>some (a==b)
 | .int j a,.int k b=>if j=k then some (a==b) else none
 | _,_=>none
def qkn (k:T):List (T×T)→Option (Option T)
 | []=>some none
 | e::l=>match qnU k e.1 with
  | some true=>some (some e.2)
  | some false=>qkn k l
  | none=>none
def qjR (k v:T):List (T×T)→List (T×T)
 | []=>[(k,v)]
 | e::l=>match qnU k e.1 with
  | some true=>(k,v)::l
  | _=>e::qjR k v l
def Req.run (fresh:Nat)(H:Heap):Req→Option (T×List Nat×List (Nat×Slot))
 | .val v=>some (v,[],[])
 | .new ty cs ptr e n=>match H fresh with
  | .free=>some (if ptr then .ref fresh cs.length 0 else .sl fresh cs.length e 0 n,[],[(fresh,.live ⟨ty,cs⟩)])
  | _=>none
 | .load e id tot off=>match H id with
  | .live b=>if b.cs.length=tot∧off+esz e≤tot then some (mkEl e ((b.cs.drop off).take (esz e)),[id],[]) else none
  | _=>none
 | .store id tot off cs=>match H id with
  | .live b=>if b.cs.length=tot∧off+cs.length≤tot then some (.tup [],[id],[(id,.live ⟨b.ty,splice b.cs off cs⟩)]) else none
  | _=>none
 | .grow ty id tot e n m cs=>match H id with
  | .live b=>if b.ty=ty∧b.cs.length=tot∧tot=n*esz e∧cs.length=m*esz e∧0<m then some (.sl id (tot+cs.length) e 0 (n+m),[id],[(id,.live ⟨ty,b.cs++cs⟩)]) else none
  | _=>none
 | .growOf ty id tot e n id' tot' off m=>match H id,H id' with
  | .live b,.live b'=>if b.ty=ty∧b.cs.length=tot∧tot=n*esz e∧b'.cs.length=tot'∧off+m*esz e≤tot'∧0<m then
   some (.sl id (tot+m*esz e) e 0 (n+m),[id,id'],[(id,.live ⟨ty,b.cs++(b'.cs.drop off).take (m*esz e)⟩)]) else none
  | _,_=>none
 | .newOf ty e id' tot' off m=>match H fresh,H id' with
  | .free,.live b'=>if b'.cs.length=tot'∧off+m*esz e≤tot'∧0<m then
   some (.sl fresh (m*esz e) e 0 m,[id'],[(fresh,.live ⟨ty,(b'.cs.drop off).take (m*esz e)⟩)]) else none
  | _,_=>none
 | .bytes id tot off n=>match H id with
  | .live b=>if b.cs.length=tot∧off+n≤tot then (qc4 ((b.cs.drop off).take n)).map fun ns=>(.str (qkg ns),[id],[]) else none
  | _=>none
 | .newMap=>match H fresh with
  | .free=>some (.mp fresh,[],[(fresh,.map [])])
  | _=>none
 | .look id k z ok=>match H id with
  | .map es=>match qkn k es with
   | some (some v)=>some (if ok then .tup [v,.bool true] else v,[id],[])
   | some none=>some (if ok then .tup [z,.bool false] else z,[id],[])
   | none=>none
  | _=>none
 | .mset id k v=>match H id with
  | .map es=>match qkn k es with
   | some _=>some (.tup [],[id],[(id,.map (qjR k v es))])
   | none=>none
  | _=>none
def Heap.upd (H:Heap)(U:List (Nat×Slot)):Heap:=U.foldl (fun H p=>H.set p.1 p.2) H
theorem Heap.upd_one (H:Heap)(id:Nat)(s:Slot):H.upd [(id,s)]=H.set id s:=rfl
theorem Req.run_local {fresh:Nat}{H H':Heap}{q:Req}{v:T}{F:List Nat}{U:List (Nat×Slot)}(h:q.run fresh H=some (v,F,U))
 (hF:∀i∈F,H' i=H i) (hU:∀p∈U,H' p.1=H p.1):q.run fresh H'=some (v,F,U):=by
 cases q<;>simp only[Req.run] at h ⊢
 case val=>exact h
 case new=>
  split at h
  ·rename_i hf
   simp only[Option.some.injEq,Prod.mk.injEq] at h
   obtain⟨rfl,rfl,rfl⟩:=h
   have e:=hU _ (List.mem_singleton.2 rfl)
   simp only at e
   rw[e,hf]
  ·cases h
 case load=>
  split at h
  ·rename_i b hb
   split at h
   ·rename_i hc
    simp only[Option.some.injEq,Prod.mk.injEq] at h
    obtain⟨rfl,rfl,rfl⟩:=h
    rw[hF _ (by simp),hb]
    simp[hc]
   ·cases h
  ·cases h
 case store=>
  split at h
  ·rename_i b hb
   split at h
   ·rename_i hc
    simp only[Option.some.injEq,Prod.mk.injEq] at h
    obtain⟨rfl,rfl,rfl⟩:=h
    rw[hF _ (by simp),hb]
    simp[hc]
   ·cases h
  ·cases h
 case grow=>
  split at h
  ·rename_i b hb
   split at h
   ·rename_i hc
    simp only[Option.some.injEq,Prod.mk.injEq] at h
    obtain⟨rfl,rfl,rfl⟩:=h
    rw[hF _ (by simp),hb]
    simp[hc]
   ·cases h
  ·cases h
 case growOf=>
  split at h
  ·rename_i b b' hb hb'
   split at h
   ·rename_i hc
    simp only[Option.some.injEq,Prod.mk.injEq] at h
    obtain⟨rfl,rfl,rfl⟩:=h
    rw[hF _ (by simp),hb,hF _ (List.mem_cons_of_mem _ (List.mem_singleton.2 rfl)),hb']
    simp[hc]
   ·cases h
  ·cases h
 case newOf=>
  split at h
  ·rename_i b hb hb'
   split at h
   ·rename_i hc
    simp only[Option.some.injEq,Prod.mk.injEq] at h
    obtain⟨rfl,rfl,rfl⟩:=h
    have e:=hU _ (List.mem_singleton.2 rfl)
    simp only at e
    rw[e,hb,hF _ (by simp),hb']
    simp[hc]
   ·cases h
  ·cases h
 case bytes=>
  split at h
  ·rename_i b hb
   split at h
   ·rename_i hc
    have hF':∀ns,qc4 ((b.cs.drop _).take _)=some ns→F=[_]:=fun ns hn=>by
     rw[hn] at h;simp only[Option.map_some,Option.some.injEq,Prod.mk.injEq] at h;exact h.2.1.symm
    cases hn:qc4 ((b.cs.drop _).take _) with
    | none=>rw[hn] at h;cases h
    | some ns=>
     have:=hF' ns hn
     subst this
     rw[hF _ (by simp),hb]
     simp only[hc,and_self,if_true]
     exact h
   ·cases h
  ·cases h
 case newMap=>
  split at h
  ·rename_i hf
   simp only[Option.some.injEq,Prod.mk.injEq] at h
   obtain⟨rfl,rfl,rfl⟩:=h
   have e:=hU _ (List.mem_singleton.2 rfl)
   simp only at e
   rw[e,hf]
  ·cases h
 case look=>
  split at h
  ·rename_i es hb
   split at h
   ·rename_i r hr
    simp only[Option.some.injEq,Prod.mk.injEq] at h
    obtain⟨rfl,rfl,rfl⟩:=h
    rw[hF _ (by simp),hb]
    simp[hr]
   ·rename_i hr
    simp only[Option.some.injEq,Prod.mk.injEq] at h
    obtain⟨rfl,rfl,rfl⟩:=h
    rw[hF _ (by simp),hb]
    simp[hr]
   ·cases h
  ·cases h
 case mset=>
  split at h
  ·rename_i es hb
   split at h
   ·rename_i r hr
    simp only[Option.some.injEq,Prod.mk.injEq] at h
    obtain⟨rfl,rfl,rfl⟩:=h
    rw[hF _ (by simp),hb]
    simp[hr]
   ·cases h
  ·cases h
inductive Opd where
 | tmp (t:Nat)
 | con (x:T)
 | fnc (f:FuncId)
inductive EqK where
 | bool | func | slice | none | ints (n:Nat)
 deriving DecidableEq
inductive IOp where
 | mv (x:Opd)
 | pick (c a b:Opd)
 | alloc (ty:TypeId) (zs:List T)
 | box (ty:TypeId) (x:Opd)
 | build (zs:List T) (parts:List (Nat×Nat×Opd))
 | rows (ty e len:Nat) (zs:List T) (parts:List (Nat×Nat×Opd))
 | load (e:Nat) (a:Opd)
 | store (e:Nat) (a x:Opd)
 | bin (op:BinOp) (k:EqK) (x y:Opd)
 | un (op:UnOp) (x:Opd)
 | conv (k:IntKind) (x:Opd)
 | faddr (off k:Nat) (x:Opd)
 | field (off e:Nat) (x:Opd)
 | iaddr (e:Nat) (arr:Option Nat) (x i:Opd)
 | index (e len:Nat) (x i:Opd)
 | sindex (x i:Opd)
 | slice (e:Nat) (x:Opd) (lo hi:Option Opd)
 | sslice (x:Opd) (lo hi:Option Opd)
 | mkfn (f:FuncId) (caps:List Opd)
 | extract (x:Opd) (i:Nat)
 | nilck (x:Opd)
 | len (x:Opd)
 | slen (x:Opd)
 | alen (n:Nat)
 | app (ty e:Nat) (s x:Opd)
 | mks (ty e:Nat) (zs:List T) (len cap:Opd)
 | mm (isMax:Bool) (x y:Opd)
 | emp (x:Opd)
 | cap (x:Opd)
 | appz (ty e:Nat) (zs:List T) (s n:Opd)
 | b2s (x:Opd)
 | mkmap
 | look (kk:Bool) (z:T) (ok:Bool) (m k:Opd)
 | mset (kk:Bool) (m k v:Opd)
 | clear (e:Nat) (zs:List T) (x:Opd)
 | slck (x lo hi mx:Opd)
 | bad
inductive ICall where
 | call (f:FuncId) (args:List Opd)
 | callv (x:Opd) (args:List Opd)
def Opd.ev (env:Nat→T):Opd→T
 | .tmp t=>env t
 | .con x=>x
 | .fnc f=>.fn f []
def tOf1:Value→Option T
 | .bool b=>some (.bool b)
 | .int k n=>some (.int k n)
 | .string s=>some (.str s)
 | .pointer none=>some .nilp
 | .slice none 0 0=>some .nil
 | .nilFunc=>some .nilfn
 | .map none=>some .nilmp
 | _=>none
def tOfL:List Value→Option (List T)
 | []=>some []
 | v::vs=>match tOf1 v,tOfL vs with
  | some x,some xs=>some (x::xs)
  | _,_=>none
def tOf:Value→Option T
 | .agg cs=>(tOfL cs.toList).map .agg
 | .tuple vs=>if vs.size=0 then some (.tup []) else none
 | v=>tOf1 v
def opd:Operand→Option Opd
 | .tmp t=>some (.tmp t)
 | .const v=>(tOf v).map .con
 | .func f=>some (.fnc f)
 | .global g=>(qrY.lookup g).map fun cs=>.con (.ptr cs)
def opds:List Operand→Option (List Opd)
 | []=>some []
 | x::xs=>match opd x,opds xs with
  | some y,some ys=>some (y::ys)
  | _,_=>none
def oopd:Option Operand→Option (Option Opd)
 | none=>some none
 | some x=>(opd x).map some
def lay (P:Program)(t:TypeId):Option Nat:=
 match P.info? t,P.underlying t with
 | some i,some (.struct _) | some i,some (.array _ _)=>if i.size=0 then none else some i.size
 | some i,some _=>if i.size=1 then some 0 else none
 | _,_=>none
def qkI (P:Program)(t:TypeId):Bool:=
 match P.underlying t with
 | some (.int _)=>P.plainKey t
 | _=>false
def qr6 (P:Program):List Field→Nat→Bool
 | [],_=>true
 | f :: l, k => f.name != "_" && f.offset == k && qkI P f.type && qr6 P l (k + 1)
def eqk (P:Program)(t:TypeId):EqK:=
 match P.underlying t with
 | some .bool=>.bool
 | some (.func _ _ _)=>.func
 | some (.slice _)=>.slice
 | some (.struct fs)=>if !P.eqGuardType P.depth t&&!P.stoodInHeld t&&qr6 P fs.toList 0 then .ints fs.size else .none
 | some (.array n el)=>if !P.eqGuardType P.depth t&&qkI P el&&P.cellsOf el==1&&(P.info? el).isSome then .ints n else .none
 | _=>.none
def zer (P:Program)(t:TypeId):Option (List T):=
 match (P.info? t).bind (·.zero) with
 | some v=>tOfL v.cells.toList
 | none=>none
def qiO (fs:Array Field)(P:Program):List (Nat×Operand)→Option (List (Nat×Nat×Opd))
 | []=>some []
 | (i,x)::r=>match fs[i]?,opd x,qiO fs P r with
  | some f,some y,some ys=>match P.info? f.type with
   | some k=>some ((f.offset,k.size,y)::ys)
   | none=>none
  | _,_,_=>none
def qfc (k:Nat):List (Nat×Operand)→Option (List (Nat×Nat×Opd))
 | []=>some []
 | (i,x)::r=>match opd x,qfc k r with
  | some y,some ys=>some ((i*k,k,y)::ys)
  | _,_=>none
def zer1 (P:Program)(t:TypeId):Option T:=
 match (P.info? t).bind (·.zero) with
 | some v=>tOf1 v
 | none=>none
def keyK (P:Program)(t:TypeId):Option Bool:=
 match P.underlying t with
 | some .string=>some true
 | some (.int _)=>some false
 | _=>none
def isZero:Operand→Bool
 | .const (.int _ n)=>n==0
 | _=>false
def qdn (P:Program)(o:Oper):Option IOp:=
 match o.op with
 | .move x | .assign x=>(opd x).map .mv
 | .pick c a b=>match opd c,opd a,opd b with
  | some c,some a,some b=>some (.pick c a b)
  | _,_,_=>none
 | .alloc t=>match lay P t,zer P t with
  | some e,some zs=>if zs.length=esz e then some (.alloc t zs) else none
  | _,_=>none
 | .box t x=>match opd x with
  | some x=>some (.box t x)
  | _=>none
 | .build t ps=>match P.underlying t,zer P t with
  | some (.struct fs),some zs=>match qiO fs P ps.toList with
   | some l=>if (fs.all fun f=>(P.info? f.type).isSome) then some (.build zs l) else none
   | none=>none
  | some (.array _ el),some zs=>match P.info? el with
   | some i=>match qfc i.size ps.toList with
    | some l=>some (.build zs l)
    | none=>none
   | none=>none
  | _,_=>none
 | .buildSlice t n ps=>match P.underlying t with
  | some (.slice el)=>match lay P el,P.info? el,zer P el with
   | some e,some i,some zs=>match qfc i.size ps.toList with
    | some l=>if i.size=esz e∧n*esz e≤2 ^ 24∧zs.length=esz e∧(0<n∨l.isEmpty=true) then some (.rows el e n zs l) else none
    | none=>none
   | _,_,_=>none
  | _=>none
 | .load t a=>match lay P t,opd a with
  | some e,some a=>some (.load e a)
  | _,_=>none
 | .store t a x=>match lay P t,opd a,opd x with
  | some e,some a,some x=>some (.store e a x)
  | _,_,_=>none
 | .binOp op t x y _=>match opd x,opd y with
  | some x,some y=>some (.bin op (eqk P t) x y)
  | _,_=>none
 | .unOp op _ x=>(opd x).map (.un op ·)
 | .convert s d x=>match P.underlying s,P.underlying d,opd x with
  | some _,some (.int k),some x=>some (.conv k x)
  | some (.slice el),some .string,some x=>match P.underlying el with
   | some (.int .u8)=>some (.b2s x)
   | _=>none
  | _,_,_=>none
 | .fieldAddr s x f=>match P.underlying s,opd x with
  | some (.struct fs),some x=>match fs[f]? with
   | some fd=>match P.info? fd.type with
    | some i=>if i.size≠0 then some (.faddr fd.offset i.size x) else none
    | none=>none
   | none=>none
  | _,_=>none
 | .field s x f=>match P.underlying s,opd x with
  | some (.struct fs),some x=>match fs[f]? with
   | some fd=>match lay P fd.type with
    | some e=>some (.field fd.offset e x)
    | none=>none
   | none=>none
  | _,_=>none
 | .indexAddr t x i=>match P.underlying t,opd x,opd i with
  | some (.slice el),some x,some i=>(lay P el).map fun e=>.iaddr e none x i
  | some (.array n el),some x,some i=>(lay P el).map fun e=>.iaddr e (some n) x i
  | _,_,_=>none
 | .index t x i=>match P.underlying t,opd x,opd i with
  | some (.array n el),some x,some i=>(lay P el).map fun e=>.index e n x i
  | some .string,some x,some i=>some (.sindex x i)
  | _,_,_=>none
 | .slice t x lo hi none=>match P.underlying t,opd x,oopd lo,oopd hi with
  | some (.slice el),some x,some lo,some hi=>(lay P el).map fun e=>.slice e x lo hi
  | some .string,some x,some lo,some hi=>some (.sslice x lo hi)
  | _,_,_,_=>none
 | .slice t x none (some hi) (some mx)=>match P.underlying t,opd x with
  | some (.slice el),some x=>if isZero hi&&isZero mx&&(P.info? el).isSome then some (.emp x) else none
  | _,_=>none
 | .makeMap t none=>some .mkmap
 | .lookup t m k ok=>match P.underlying t,opd m,opd k with
  | some (.map kt et),some m,some k=>match keyK P kt,zer1 P et with
   | some kk,some z=>some (.look kk z ok m k)
   | _,_=>none
  | _,_,_=>none
 | .mapUpdate t m k v | .insert t m k v=>match P.underlying t,opd m,opd k,opd v with
  | some (.map kt et),some m,some k,some v=>match keyK P kt with
   | some kk=>some (.mset kk m k v)
   | none=>none
  | _,_,_,_=>none
 | .makeFunc (.func f) first caps=>if first.size=0 then (opds caps.toList).map (.mkfn f ·) else none
 | .extract x i=>(opd x).map (.extract · i)
 | .nilCheck x=>(opd x).map .nilck
 | .makeSlice t l c=>match P.underlying t,opd l,opd c with
  | some (.slice el),some l,some c=>match lay P el,P.info? el,zer P el with
   | some e,some i,some zs=>if i.size=esz e∧i.bytes≤100000∧zs.length=esz e then some (.mks el e zs l c) else none
   | _,_,_=>none
  | _,_,_=>none
 | .call { callee:=.builtin .len,args,argTypes }=>match args.toList,argTypes.toList with
  | [x],[t]=>match P.underlying t,opd x with
   | some (.slice _),some x=>some (.len x)
   | some .string,some x=>some (.slen x)
   | some (.array n _),some _=>some (.alen n)
   | _,_=>none
  | _,_=>none
 | .call { callee:=.builtin .append,args,argTypes }=>match args.toList,argTypes.toList with
  | [s,x],[t,t']=>match P.underlying t,opd s,opd x with
   | some (.slice el),some s,some x=>match lay P el,P.info? el with
    | some e,some i=>if t'=t then (if i.size=esz e∧i.bytes≤100000∧(i.zero.map fun z=>z.cells.size)=some i.size then some (.app el e s x) else none)
     else match P.underlying t',zer P el with
      | some (.int _),some zs=>if i.size=esz e∧i.bytes≤100000∧zs.length=esz e then some (.appz el e zs s x) else none
      | _,_=>none
    | _,_=>none
   | _,_,_=>none
  | _,_=>none
 | .call { callee:=.builtin .cap,args,argTypes }=>match args.toList,argTypes.toList with
  | [x],[t]=>match P.underlying t,opd x with
   | some (.slice _),some x=>some (.cap x)
   | _,_=>none
  | _,_=>none
 | .call { callee:=.builtin .clear,args,argTypes }=>match args.toList,argTypes.toList with
  | [x],[t]=>match P.underlying t,opd x with
   | some (.slice el),some x=>match lay P el,P.info? el,zer P el with
    | some e,some i,some zs=>if i.size=esz e∧zs.length=esz e then some (.clear e zs x) else none
    | _,_,_=>none
   | _,_=>none
  | _,_=>none
 | .call { callee:=.builtin .min,args,.. }=>match args.toList with
  | [x,y]=>match opd x,opd y with
   | some x,some y=>some (.mm false x y)
   | _,_=>none
  | _=>none
 | .call { callee:=.builtin .max,args,.. }=>match args.toList with
  | [x,y]=>match opd x,opd y with
   | some x,some y=>some (.mm true x y)
   | _,_=>none
  | _=>none
 | .slice t x (some lo) (some hi) (some mx)=>match P.underlying t,opd x,opd lo,opd hi,opd mx with
  | some (.slice el),some x,some lo,some hi,some mx=>if (P.info? el).isSome then some (.slck x lo hi mx) else none
  | _,_,_,_,_=>none
 | _=>none
def qcf (s:ByteArray)(j:Int):Int:=if h:j.toNat<s.size then ((s[j.toNat]'h).toNat:Nat) else 0
def binI (op:BinOp)(k:IntKind)(a b:Int):Option T:=
 match op with
 | .add=>some (.int k (k.wrap (a+b)))
 | .sub=>some (.int k (k.wrap (a - b)))
 | .mul=>some (.int k (k.wrap (a*b)))
 | .quo=>if b=0 then none else some (.int k (k.wrap (a.tdiv b)))
 | .rem=>if b=0 then none else some (.int k (a.tmod b))
 | .eql=>some (.bool (a==b))
 | .neq=>some (.bool (a != b))
 | .lss=>some (.bool (decide (a<b)))
 | .leq=>some (.bool (decide (a≤b)))
 | .gtr=>some (.bool (decide (a > b)))
 | .geq=>some (.bool (decide (a≥b)))
 | .and=>some (.int k (k.wrap (BitVec.ofInt k.bits a &&& BitVec.ofInt k.bits b).toNat))
 | .or=>some (.int k (k.wrap (BitVec.ofInt k.bits a ||| BitVec.ofInt k.bits b).toNat))
 | .xor=>some (.int k (k.wrap (BitVec.ofInt k.bits a ^^^ BitVec.ofInt k.bits b).toNat))
 | _=>none
def shI (op:BinOp)(k:IntKind)(a b:Int):Option T:=
 if b<0 then none else
 match op with
 | .shl=>some (.int k (k.wrap (a*2 ^ (min b.toNat k.bits))))
 | .shr=>some (.int k (a.fdiv (2 ^ (min b.toNat k.bits))))
 | _=>none
def binS (op:BinOp)(a b:ByteArray):Option T:=
 match op with
 | .add=>if a.size+b.size≤1000000 then some (.str (a++b)) else none
 | .eql=>some (.bool (a.toList==b.toList))
 | .neq=>some (.bool (!(a.toList==b.toList)))
 | _=>none
def qdZ:BinOp→Bool
 | .shl | .shr=>true
 | _=>false
def qbx:Nat→List T→List T→Option Bool
 | 0,[],[]=>some true
 | n+1,.int j a::cs,.int k b::ds=>if j=k then (match qbx n cs ds with | some r=>some (a==b&&r) | none=>none) else none
 | _,_,_=>none
def eqT (op:BinOp)(b:Bool):Option T:=
 match op with
 | .eql=>some (.bool b)
 | .neq=>some (.bool (!b))
 | _=>none
def binT (op:BinOp)(k:EqK):T→T→Option T
 | .agg cs,.agg ds=>match k with
  | .ints n=>match qbx n cs ds with
   | some b=>eqT op b
   | none=>none
  | _=>none
 | .int j a,.int j' b=>if qdZ op then shI op j a b else if j=j' then binI op j a b else none
 | .str a,.str b=>binS op a b
 | .bool a,.bool b=>if k=.bool then (match op with | .eql=>some (.bool (a==b)) | .neq=>some (.bool (!(a==b))) | _=>none) else none
 | .nilfn,.nilfn=>if k=.func then (match op with | .eql=>some (.bool true) | .neq=>some (.bool false) | _=>none) else none
 | .fn _ _,.nilfn=>if k=.func then (match op with | .eql=>some (.bool false) | .neq=>some (.bool true) | _=>none) else none
 | .nil,.nil=>if k=.slice then (match op with | .eql=>some (.bool true) | .neq=>some (.bool false) | _=>none) else none
 | .sl ..,.nil=>if k=.slice then (match op with | .eql=>some (.bool false) | .neq=>some (.bool true) | _=>none) else none
 | .list (_::_),.nil=>if k=.slice then (match op with | .eql=>some (.bool false) | .neq=>some (.bool true) | _=>none) else none
 | _,_=>none
def okc:T→Bool
 | .undef | .tup _=>false
 | _=>true
def qcP (env:Nat→T):List (Nat×Nat×Opd)→List T→Option (List T)
 | [],cs=>some cs
 | (off,k,x)::r,cs=>
  if (x.ev env).cells.length=k∧off+k≤cs.length∧okc (x.ev env)=true then qcP env r (splice cs off (x.ev env).cells) else none
def repl (n:Nat)(zs:List T):List T:=(List.replicate n zs).flatten
def loI (x:Option T):Option Nat:=
 match x with
 | none=>some 0
 | some (.int _ j)=>if 0≤j then some j.toNat else none
 | _=>none
def hiI (n:Nat)(x:Option T):Option Nat:=
 match x with
 | none=>some n
 | some (.int _ j)=>if 0≤j then some j.toNat else none
 | _=>none
def sizedB (e:Nat)(ys:List T):Bool:=ys.all fun y=>y.cells.length==esz e
def qh6 (e:Nat)(x:T)(lo hi:Option T):Option T:=
 match x with
 | .nil=>match loI lo,hiI 0 hi with
  | some l,some h=>if l=0∧h=0 then some .nil else none
  | _,_=>none
 | .list xs=>match loI lo,hiI xs.length hi with
  | some l,some h=>if l≤h∧h≤xs.length∧sizedB e xs=true then some (.list ((xs.drop l).take (h - l))) else none
  | _,_=>none
 | .sl id tot e' off n=>match loI lo,hiI n hi with
  | some l,some h=>if e'=e∧l≤h∧h≤n then (if l=h then some (.list []) else some (.sl id tot e (off+l*esz e) (h - l))) else none
  | _,_=>none
 | _=>none
def appT (ty e:Nat)(s x:T):Option Req:=
 match s,x with
 | .nil,.nil=>some (.val .nil)
 | .sl id tot e' off n,.nil=>some (.val (.sl id tot e' off n))
 | .nil,.list ys=>match ys with
  | []=>some (.val .nil)
  | y::r=>if sizedB e (y::r)=true∧(y::r).length≤1000000000 then some (.new ty (flat (y::r)) false e (y::r).length) else none
 | .sl id tot e' off n,.list ys=>match ys with
  | []=>some (.val (.sl id tot e' off n))
  | y::r=>if e'=e∧off=0∧sizedB e (y::r)=true∧n+(y::r).length≤1000000000 then some (.grow ty id tot e n (y::r).length (flat (y::r))) else none
 | .nil,.sl id' tot' e' off m=>if e'=e∧m≤1000000000 then some (.newOf ty e id' tot' off m) else none
 | .sl id tot e' off n,.sl id' tot' e'' off' m=>if e'=e∧e''=e∧off=0∧n+m≤1000000000 then some (.growOf ty id tot e n id' tot' off' m) else none
 | .emp,.nil=>some (.val .emp)
 | .emp,.list ys=>match ys with
  | []=>some (.val .emp)
  | y::r=>if sizedB e (y::r)=true∧(y::r).length≤1000000000 then some (.new ty (flat (y::r)) false e (y::r).length) else none
 | _,_=>none
def lenT:T→Option Int
 | .list xs=>some xs.length
 | .sl _ _ _ _ n=>some n
 | .nil=>some 0
 | .emp=>some 0
 | _=>none
def isKind:Bool→T→Bool
 | true,.str _=>true
 | false,.int _ _=>true
 | _,_=>false
def req (env:Nat→T):IOp→Option Req
 | .mv x=>some (.val (x.ev env))
 | .pick c a b=>match c.ev env with
  | .bool t=>some (.val (if t then a.ev env else b.ev env))
  | _=>none
 | .alloc ty zs=>some (.new ty zs true 0 0)
 | .box ty x=>if okc (x.ev env)=true then some (.new ty (x.ev env).cells true 0 0) else none
 | .build zs ps=>(qcP env ps zs).map fun cs=>.val (.agg cs)
 | .rows ty e n zs ps=>(qcP env ps (repl n zs)).map fun cs=>.new ty cs false e n
 | .load e a=>match a.ev env with
  | .ref id tot off=>some (.load e id tot off)
  | .ptr cs=>if cs.length=esz e then some (.val (mkEl e cs)) else none
  | _=>none
 | .store e a x=>match a.ev env with
  | .ref id tot off=>if okc (x.ev env)=true∧(x.ev env).cells.length=esz e then some (.store id tot off (x.ev env).cells) else none
  | _=>none
 | .bin op k x y=>(binT op k (x.ev env) (y.ev env)).map .val
 | .un op x=>match op,x.ev env with
  | .not,.bool b=>some (.val (.bool !b))
  | .neg,.int k n=>some (.val (.int k (k.wrap (0 - n))))
  | _,_=>none
 | .conv k x=>match x.ev env with
  | .int _ n=>some (.val (.int k (k.wrap n)))
  | _=>none
 | .faddr off k x=>match x.ev env with
  | .ref id tot o=>some (.val (.ref id tot (o+off)))
  | .ptr cs=>if off+k≤cs.length then some (.val (.ptr ((cs.drop off).take k))) else none
  | _=>none
 | .field off e x=>match x.ev env with
  | .agg cs=>if off+esz e≤cs.length then some (.val (mkEl e ((cs.drop off).take (esz e)))) else none
  | _=>none
 | .iaddr e none x i=>match x.ev env,i.ev env with
  | .sl id tot e' off n,.int _ j=>if e'=e∧0≤j∧j<n then some (.val (.ref id tot (off+j.toNat*esz e))) else none
  | .list xs,.int _ j=>if 0≤j∧j<xs.length∧(xs.getD j.toNat .undef).cells.length=esz e then some (.val (.ptr (xs.getD j.toNat .undef).cells)) else none
  | _,_=>none
 | .iaddr e (some n) x i=>match x.ev env,i.ev env with
  | .ref id tot o,.int _ j=>if 0≤j∧j<n then some (.val (.ref id tot (o+j.toNat*esz e))) else none
  | .ptr cs,.int _ j=>if 0≤j∧j<n∧j.toNat*esz e+esz e≤cs.length then some (.val (.ptr ((cs.drop (j.toNat*esz e)).take (esz e)))) else none
  | _,_=>none
 | .index e n x i=>match x.ev env,i.ev env with
  | .agg cs,.int _ j=>if 0≤j∧j<n∧j.toNat*esz e+esz e≤cs.length then some (.val (mkEl e ((cs.drop (j.toNat*esz e)).take (esz e)))) else none
  | _,_=>none
 | .sindex x i=>match x.ev env,i.ev env with
  | .str s,.int _ j=>if 0≤j∧j.toNat<s.size then some (.val (.int .u8 (qcf s j))) else none
  | _,_=>none
 | .slice e x lo hi=>(qh6 e (x.ev env) (lo.map (·.ev env)) (hi.map (·.ev env))).map .val
 | .sslice x lo hi=>match x.ev env with
  | .str s=>match loI (lo.map (·.ev env)),hiI s.size (hi.map (·.ev env)) with
   | some l,some h=>if l≤h∧h≤s.size then some (.val (.str (s.extract l h))) else none
   | _,_=>none
  | _=>none
 | .mkfn f caps=>some (.val (.fn f (caps.map (·.ev env))))
 | .extract x i=>match x.ev env with
  | .tup vs=>if i<vs.length then some (.val (vs.getD i .undef)) else none
  | _=>none
 | .nilck x=>match x.ev env with
  | .ref id tot off=>some (.val (.ref id tot off))
  | .ptr cs=>some (.val (.ptr cs))
  | .fn f cs=>some (.val (.fn f cs))
  | _=>none
 | .len x=>(lenT (x.ev env)).map fun n=>.val (.int .i64 n)
 | .slen x=>match x.ev env with
  | .str s=>some (.val (.int .i64 s.size))
  | _=>none
 | .alen n=>some (.val (.int .i64 n))
 | .app ty e s x=>appT ty e (s.ev env) (x.ev env)
 | .mks ty e zs l c=>match l.ev env,c.ev env with
  | .int _ n,.int _ m=>if 0≤n∧n≤m∧m≤1000000000 then some (.new ty (repl n.toNat zs) false e n.toNat) else none
  | _,_=>none
 | .mm isMax x y=>match x.ev env,y.ev env with
  | .int k a,.int _ b=>some (.val (.int k (if isMax then (if b > a then b else a) else (if b<a then b else a))))
  | _,_=>none
 | .emp x=>match x.ev env with
  | .nil=>some (.val .nil)
  | .emp=>some (.val .emp)
  | .list _=>some (.val .emp)
  | .sl ..=>some (.val .emp)
  | _=>none
 | .cap x=>match x.ev env with
  | .nil=>some (.val (.int .i64 0))
  | .emp=>some (.val (.int .i64 0))
  | _=>none
 | .appz ty e zs s n=>match s.ev env,n.ev env with
  | .nil,.int .i64 j=>if 0≤j∧j≤1000000000 then (if j=0 then some (.val .nil) else some (.new ty (repl j.toNat zs) false e j.toNat)) else none
  | _,_=>none
 | .b2s x=>match x.ev env with
  | .sl id tot e off n=>if e=0 then some (.bytes id tot off n) else none
  | .list xs=>(qc4 xs).map fun ns=>.val (.str (qkg ns))
  | .nil=>some (.val (.str (qkg [])))
  | _=>none
 | .mkmap=>some .newMap
 | .look kk z ok m k=>match m.ev env with
  | .mp id=>if isKind kk (k.ev env)=true then some (.look id (k.ev env) z ok) else none
  | _=>none
 | .mset kk m k v=>match m.ev env with
  | .mp id=>if isKind kk (k.ev env)=true then some (.mset id (k.ev env) (v.ev env)) else none
  | _=>none
 | .clear e zs x=>match x.ev env with
  | .sl id tot e' off n=>if e'=e then some (.store id tot off (repl n zs)) else none
  | .nil=>some (.val (.tup []))
  | .list ys=>match ys with
   | []=>some (.val (.tup []))
   | _=>none
  | _=>none
 | .slck x lo hi mx=>match x.ev env,lo.ev env,hi.ev env,mx.ev env with
  | .sl _ _ _ _ n,.int _ l,.int _ h,.int _ m=>if 0≤l∧l≤h∧h≤m∧m≤n then some (.val .undef) else none
  | _,_,_,_=>none
 | .bad=>none
def qmf (o:Oper):Option ICall:=
 match o.op with
 | .call c=>match c.callee with
  | .value (.func f)=>(opds c.args.toList).map (.call f ·)
  | .value x=>match opd x,opds c.args.toList with
   | some x,some l=>some (.callv x l)
   | _,_=>none
  | _=>none
 | _=>none
def EnvR (w:World)(A:Sta)(μ:Nat→Nat)(H:Heap)(a:Act)(env:Nat→T):Prop:=∀t,Rep w A μ H (a.tmps.getD t Go.undef) (env t)
def Does (P:Program)(o:Oper)(a:Act)(w:World)(A:Sta)(μ:Nat→Nat)(H:Heap)(v:T)(H':Heap):Prop:=
 ∃nx u w' μ',(execOp a.eval o).run P w=.ok nx w'∧(nx=.value u∨nx=.skip∧u=Go.undef)∧Rep w' A μ' H' u v∧Sim w' A μ' H'∧Trans w A μ H w' A μ' H'
section
variable {P:Program} {o:Oper} {a:Act} {w:World} {A:Sta} {μ:Nat→Nat} {H H':Heap} {env:Nat→T} {v:T}
theorem Does.val {u:Value}(hS:Sim w A μ H)(h:(execOp a.eval o).run P w=.ok (.value u) w)(hr:Rep w A μ H u v):Does P o a w A μ H v H:=
 ⟨_,u,w,μ,h,.inl rfl,hr,hS,.refl _ _ _ _⟩
theorem qj7 {v:Value}{x:T}(h:tOf1 v=some x):Rep w A μ H v x:=by
 unfold tOf1 at h
 split at h<;>first | (injection h with h;subst h;constructor) | cases h
theorem qsR {v:Value}{x:T}(h:tOf1 v=some x):x.one=true:=by
 unfold tOf1 at h
 split at h<;>first | (injection h with h;subst h;rfl) | cases h
theorem qj8:∀ {vs:List Value} {xs:List T},tOfL vs=some xs→vs.length=xs.length∧Ones xs∧∀i,i<xs.length→Rep w A μ H (vs.getD i Go.undef) (xs.getD i .undef)
 | [],xs,h=>by
  injection h with h
  subst h
  exact⟨rfl,(fun c hc=>by cases hc),fun i hi=>by cases hi⟩
 | v::vs,xs,h=>by
  unfold tOfL at h
  split at h
  ·rename_i x ys h1 h2
   injection h with h
   subst h
   obtain⟨i1,i2,i3⟩:=qj8 h2
   refine⟨by simp[i1],fun c hc=>?_,fun i hi=>?_⟩
   ·rcases List.mem_cons.1 hc with rfl | hc
    ·exact qsR h1
    ·exact i2 c hc
   ·cases i with
    | zero=>exact qj7 h1
    | succ i=>exact i3 i (by simpa using hi)
  ·cases h
theorem getD_toList (us:Array Value)(i:Nat):us.toList.getD i Go.undef=us.getD i Go.undef:=by
 simp[List.getD_eq_getElem?_getD]
theorem quQ {v:Value}{x:T}(h:tOf v=some x):Rep w A μ H v x:=by
 unfold tOf at h
 split at h
 ·rename_i cs
  cases hl:tOfL cs.toList with
  | none=>simp[hl] at h
  | some xs=>
   simp only[hl,Option.map_some,Option.some.injEq] at h
   subst h
   obtain⟨i1,i2,i3⟩:=qj8 (w:=w) (A:=A) (μ:=μ) (H:=H) hl
   exact .agg _ _ (by simpa using i1) i2 fun i hi=>by rw[←getD_toList];exact i3 i hi
 ·rename_i vs
  split at h
  ·rename_i h0
   injection h with h
   subst h
   exact .tup _ _ h0 fun i hi=>by cases hi
  ·cases h
 ·exact qj7 h
theorem qiK {α:Type}:∀ {l:List (Nat×α)} {k:Nat} {x:α},l.lookup k=some x→(k,x)∈l
 | [],_,_,h=>by cases h
 | (j,y)::l,k,x,h=>by
  rw[List.lookup_cons] at h
  split at h
  ·rename_i e
   rw[beq_iff_eq] at e
   injection h with h
   rw[e,h];exact List.mem_cons_self ..
  ·exact List.mem_cons_of_mem _ (qiK h)
theorem qas {x:Operand}{y:Opd}(h:opd x=some y)(he:EnvR w A μ H a env)(hg:qcp w A):Rep w A μ H (a.eval x) (y.ev env):=by
 cases x with
 | tmp t=>simp only[opd,Option.some.injEq] at h;subst h;exact he t
 | const v=>
  simp only[opd] at h
  cases hv:tOf v with
  | none=>simp[hv] at h
  | some z=>simp only[hv,Option.map_some,Option.some.injEq] at h;subst h;exact quQ hv
 | func f=>simp only[opd,Option.some.injEq] at h;subst h;exact .fn f #[] [] rfl (fun i hi=>by cases hi)
 | global g=>
  simp only[opd] at h
  cases hv:qrY.lookup g with
  | none=>simp[hv] at h
  | some cs=>
   simp only[hv,Option.map_some,Option.some.injEq] at h;subst h
   exact (hg (g,cs) (qiK hv)).ext fun i hi=>absurd rfl hi
theorem qg2:∀ {xs:List Operand} {ys:List Opd},opds xs=some ys→EnvR w A μ H a env→qcp w A→Reps w A μ H (xs.map a.eval).toArray (ys.map (·.ev env))
 | [],ys,h,he,hg=>by injection h with h;subst h;exact⟨rfl,fun i hi=>by cases hi⟩
 | x::xs,ys,h,he,hg=>by
  unfold opds at h
  split at h
  ·rename_i y zs h1 h2
   injection h with h
   subst h
   obtain⟨i1,i2⟩:=qg2 h2 he hg
   refine⟨by simpa using i1,fun i hi=>?_⟩
   cases i with
   | zero=>exact qas h1 he hg
   | succ i=>simpa [List.getD_eq_getElem?_getD] using i2 i (by simpa using hi)
  ·cases h
theorem Rep.bool_inv {v:Value}{b:Bool}(h:Rep w A μ H v (.bool b)):v=.bool b:=by cases h;rfl
theorem Rep.int_inv {v:Value}{k:IntKind}{n:Int}(h:Rep w A μ H v (.int k n)):v=.int k n:=by cases h;rfl
theorem Rep.str_inv {v:Value}{s:ByteArray}(h:Rep w A μ H v (.str s)):v=.string s:=by cases h;rfl
theorem qtD {x:Operand}{y:Opd}(ho:o.op=.move x∨o.op=.assign x)(hx:opd x=some y)(he:EnvR w A μ H a env)(hS:Sim w A μ H):Does P o a w A μ H (y.ev env) H:=by
 refine Does.val hS ?_ (qas hx he hS.glb)
 rcases ho with ho | ho
 ·unfold execOp;simp only[ho];rfl
 ·unfold execOp;simp only[ho];rfl
theorem qsN {c x y:Operand}{c' x' y':Opd}{t:Bool}(ho:o.op=.pick c x y)(hc:opd c=some c')(hx:opd x=some x')(hy:opd y=some y')(he:EnvR w A μ H a env)(hS:Sim w A μ H)
 (hb:c'.ev env=.bool t):Does P o a w A μ H (if t then x'.ev env else y'.ev env) H:=by
 have h:=qas hc he hS.glb
 rw[hb] at h
 refine Does.val (u:=if t then a.eval x else a.eval y) hS ?_ ?_
 ·unfold execOp
  simp only[ho,h.bool_inv]
  simp[asBool]
 ·cases t
  ·exact qas hy he hS.glb
  ·exact qas hx he hS.glb
theorem qci {t:TypeId}{e:Nat}(h:lay P t=some e):∃i,P.info? t=some i∧i.size=esz e∧(isAgg t).run P w=.ok (decide (e≠0)) w∧0<esz e:=by
 unfold lay at h
 split at h
 ·rename_i i fs hi hu
  split at h
  ·cases h
  ·rename_i h0
   injection h with h
   subst h
   exact⟨i,hi,by simp[esz,h0],by simp[isAgg,run_underlying hu,h0],by simp[esz,h0];omega⟩
 ·rename_i i n el hi hu
  split at h
  ·cases h
  ·rename_i h0
   injection h with h
   subst h
   exact⟨i,hi,by simp[esz,h0],by simp[isAgg,run_underlying hu,h0],by simp[esz,h0];omega⟩
 ·rename_i i d hn1 hn2 hi hu
  split at h
  ·rename_i h0
   injection h with h
   subst h
   refine⟨i,hi,by simp[esz,h0],?_,by simp[esz]⟩
   simp only[isAgg,Sem.run_bind,run_underlying hu,Result.andThen_ok]
   cases d<;>first | rfl | simp_all
  ·cases h
 ·cases h
theorem qfP {e:Nat}{cs:List T}{us:List Value}(hl:us.length=cs.length)(hn:cs.length=esz e)(h1:Ones cs)(hR:∀i,i<cs.length→Rep w A μ H (us.getD i Go.undef) (cs.getD i .undef)) :
 Rep w A μ H (if e=0 then us.getD 0 Go.undef else .agg us.toArray) (mkEl e cs):=by
 unfold mkEl
 split
 ·rename_i h0
  exact hR 0 (by rw[hn];simp[esz,h0])
 ·exact .agg _ _ (by simpa using hl) h1 fun i hi=>by
   have e:us.toArray.getD i Go.undef=us.getD i Go.undef:=by simp[List.getD_eq_getElem?_getD]
   rw[e];exact hR i hi
theorem qdb {t:TypeId}{e:Nat}(hl:lay P t=some e)(p:Addr)(U:Nat→Value)(hU:∀j,j<esz e→w.cell? (p.add j)=some (U j)) :
 (loadVar t p).run P w=.ok (if e=0 then ((List.range (esz e)).map U).getD 0 Go.undef else .agg ((List.range (esz e)).map U).toArray) w:=by
 obtain⟨i,hi,hs,ha,hpos⟩:=qci (w:=w) hl
 unfold loadVar
 simp only[Sem.run_bind,ha,Result.andThen_ok]
 by_cases h0:e=0
 ·subst h0
  have:=hU 0 (by simp[esz])
  have hz:p.add 0=p:=by simp[Addr.add]
  rw[hz] at this
  simp[this,esz]
 ·have:=run_loadCells (P:=P) w p (esz e) U hU
  simp only[h0,ne_eq,not_false_eq_true,decide_true,if_true,Sem.run_bind,sizeOf,typeInfo,run_program,Result.andThen_ok,hi,Sem.run_pure,hs,this,if_false]
theorem qlb {t:TypeId}{x:Operand}{x':Opd}{e id tot off:Nat}{b:Blk}(ho:o.op=.load t x)(hl:lay P t=some e)(hx:opd x=some x')(he:EnvR w A μ H a env)(hS:Sim w A μ H)
 (hv:x'.ev env=.ref id tot off) (hb:H id=.live b) (ht:b.cs.length=tot) (hf:off+esz e≤tot):Does P o a w A μ H (mkEl e ((b.cs.drop off).take (esz e))) H:=by
 have h:=qas hx he hS.glb
 rw[hv] at h
 generalize hu:a.eval x=u at h
 cases h with
 | refS p _ _ _ hs=>
  rcases hs with hd | ⟨b',hb',hl'⟩
  ·rw[hb] at hd;cases hd
  ·rw[hb] at hb';injection hb' with hb';subst hb';omega
 | ref _ _ _ b0 hb0 ht0=>
  obtain⟨cur,h1,h2,h3,h4⟩:=hS.blk id b hb
  have hcell:∀j,j<esz e→w.cell? ((⟨μ id,off,none⟩:Addr).add j)=some (cur.getD (off+j) Go.undef):=fun j hj=>by
   rw[qdd]
   have:off+j<cur.size:=by omega
   simp[World.cell?,h1,this]
  refine Does.val hS (u:=_) ?_ (qfP (us:=(List.range (esz e)).map fun j=>cur.getD (off+j) Go.undef) ?_ ?_ ?_ ?_)
  ·unfold execOp
   simp only[ho,hu]
   simp[Instr.loadAt,Instr.sureAddr,qdb (P:=P) hl _ _ hcell]
  ·simp;omega
  ·simp;omega
  ·exact fun c hc=>h3 c (List.mem_of_mem_drop (List.mem_of_mem_take hc))
  ·intro i hi
   have hi':i<esz e:=by simp at hi;omega
   have e1:(((List.range (esz e)).map fun j=>cur.getD (off+j) Go.undef)).getD i Go.undef=cur.getD (off+i) Go.undef:=by
    simp[List.getD_eq_getElem?_getD,hi']
   have e2:((b.cs.drop off).take (esz e)).getD i .undef=b.cs.getD (off+i) .undef:=by
    simp[List.getD_eq_getElem?_getD,hi']
   rw[e1,e2]
   exact h4 _ (by omega)
theorem qla {t:TypeId}{x:Operand}{x':Opd}{e:Nat}{cs:List T}(ho:o.op=.load t x)(hl:lay P t=some e)(hx:opd x=some x')(he:EnvR w A μ H a env)(hS:Sim w A μ H)
 (hv:x'.ev env=.ptr cs) (hn:cs.length=esz e):Does P o a w A μ H (mkEl e cs) H:=by
 have h:=qas hx he hS.glb
 rw[hv] at h
 generalize hu:a.eval x=u at h
 cases h with
 | ptr p _ U h1 hA hU hR=>
  refine Does.val hS (u:=_) ?_ (qfP (us:=(List.range (esz e)).map U) ?_ hn h1 ?_)
  ·unfold execOp
   simp only[ho,hu]
   simp[Instr.loadAt,Instr.sureAddr,qdb (P:=P) hl p U (fun j hj=>hU j (by omega))]
  ·simp;omega
  ·intro i hi
   have hi':i<esz e:=by omega
   have e1:((List.range (esz e)).map U).getD i Go.undef=U i:=by simp[List.getD_eq_getElem?_getD,hi']
   rw[e1]
   exact hR i hi
end
section
variable {P:Program} {o:Oper} {a:Act} {w:World} {A:Sta} {μ:Nat→Nat} {H H':Heap} {env:Nat→T} {v:T}
theorem qlY {op:BinOp}{t:TypeId}{x y:Operand}{u v:Value}(h:∀c d,¬(u=.agg c∧v=.agg d))(h':¬(u=.nilIface∧v=.nilIface)):(eqGuard op t x y u v).run P w=.ok () w:=by
 unfold eqGuard
 cases op<;>simp<;>(cases u<;>cases v<;>first | rfl | simp_all)
theorem qru {op:BinOp}{t:TypeId}{k:IntKind}{x y:Int}{r:T}(hsh:qdZ op=false)(h:binI op k x y=some r):∃u,(binOp op t (.int k x) (.int k y)).run P w=.ok u w∧Rep w A μ H u r:=by
 cases op<;>simp only[binI] at h
 case shl=>simp[qdZ] at hsh
 case shr=>simp[qdZ] at hsh
 case andNot=>cases h
 case quo=>
  split at h
  ·cases h
  ·rename_i h0
   injection h with h;subst h
   exact⟨.int k _,by simp[binOp,Op.intDiv,h0],.int _ _⟩
 case rem=>
  split at h
  ·cases h
  ·rename_i h0
   injection h with h;subst h
   exact⟨.int k _,by simp[binOp,Op.intDiv,h0],.int _ _⟩
 all_goals
  injection h with h
  subst h
  first
  | exact⟨.int k _,by simp[binOp,Op.intArith,Op.intBits],.int _ _⟩
  | exact⟨.bool _,by simp[binOp,Op.intCmp],.bool _⟩
theorem quC {op:BinOp}{t:TypeId}{k j:IntKind}{x y:Int}{r:T}(hsh:qdZ op=true)(h:shI op k x y=some r):∃u,(binOp op t (.int k x) (.int j y)).run P w=.ok u w∧Rep w A μ H u r:=by
 unfold shI at h
 split at h
 ·cases h
 ·rename_i h0
  cases op<;>first | (simp[qdZ] at hsh;done) | skip
  all_goals
   simp only[] at h
   injection h with h
   subst h
   exact⟨.int k _,by simp[binOp,Op.shift,h0],.int _ _⟩
theorem qrv {op:BinOp}{t:TypeId}{x y:ByteArray}{r:T}(h:binS op x y=some r):∃u,(binOp op t (.string x) (.string y)).run P w=.ok u w∧Rep w A μ H u r:=by
 cases op<;>simp only[binS] at h<;>try (cases h;done)
 case add=>
  split at h
  ·rename_i h0
   injection h with h;subst h
   exact⟨.string _,by simp only[binOp];exact run_string_add_sum w x y (by omega),.str _⟩
  ·cases h
 all_goals
  injection h with h
  subst h
  exact⟨.bool _,by simp[binOp,Op.stringOp],.bool _⟩
theorem qdP (d:Nat)(t:TypeId)(ps rs:Array TypeId)(va:Bool)(h:P.underlying t=some (.func ps rs va)):(Op.equalIn (d+1) t .nilFunc .nilFunc).run P w=.ok true w:=by
 simp[Op.equalIn,run_underlying h]
theorem qdO (d:Nat)(t:TypeId)(ps rs:Array TypeId)(va:Bool)(f:Fn)(x y:Array Value)(h:P.underlying t=some (.func ps rs va)):(Op.equalIn (d+1) t (.func f x y) .nilFunc).run P w=.ok false w:=by
 simp[Op.equalIn,run_underlying h]
theorem qbB (d:Nat)(t el:TypeId)(p:Option Addr)(n c:Nat)(h:P.underlying t=some (.slice el)):(Op.equalIn (d+1) t (.slice p n c) (.slice none 0 0)).run P w=.ok p.isNone w:=by
 cases p<;>simp[Op.equalIn,run_underlying h]
theorem qcX {t:TypeId}{op:BinOp}(hop:op=.eql∨op=.neq){u:Value}{b:Bool}(hu:u=.nilFunc∨(∃f x y,u=.func f x y) )(h:(Op.equal t u .nilFunc).run P w=.ok b w):(binOp op t u .nilFunc).run P w=.ok (.bool (if op=.eql then b else !b)) w:=by
 rcases hop with rfl | rfl<;>rcases hu with rfl | ⟨f,x,y,rfl⟩<;>simp only[binOp]<;>simp[h]
theorem qca {t:TypeId}{op:BinOp}(hop:op=.eql∨op=.neq){p:Option Addr}{n c:Nat}{b:Bool}(h:(Op.equal t (.slice p n c) (.slice none 0 0)).run P w=.ok b w):(binOp op t (.slice p n c) (.slice none 0 0)).run P w=.ok (.bool (if op=.eql then b else !b)) w:=by
 rcases hop with rfl | rfl<;>simp only[binOp]<;>simp[h]
theorem qhI {t:TypeId}(h:qkI P t=true):P.plainKey t=true∧∃k,P.underlying t=some (.int k):=by
 unfold qkI at h
 split at h
 ·rename_i k hk;exact⟨h,k,hk⟩
 ·cases h
theorem qhq {n:Nat}{cs ds:List T}{b:Bool}(h:qbx (n+1) cs ds=some b):∃j x cs' y ds' r,cs=.int j x::cs'∧ds=.int j y::ds'∧qbx n cs' ds'=some r∧b=(x==y&&r):=by
 unfold qbx at h
 split at h
 ·rename_i h0;cases h0
 ·rename_i m j x cs' k y ds' h0
  injection h0 with h0
  subst h0
  split at h
  ·rename_i hj
   subst hj
   split at h
   ·rename_i r hr
    injection h with h
    exact⟨_,_,_,_,_,r,rfl,rfl,hr,h.symm⟩
   ·cases h
  ·cases h
 ·cases h
theorem qdN (d:Nat)(us ud:Array Value):∀(fs:List Field) (k:Nat) (cs ds:List T) (b:Bool),qr6 P fs k=true→qbx fs.length cs ds=some b→
 (∀i,i<cs.length→∃u,us[k+i]? = some u∧Rep w A μ H u (cs.getD i .undef))→(∀i,i<ds.length→∃u,ud[k+i]? = some u∧Rep w A μ H u (ds.getD i .undef))→
 (Op.eqFields (d+1) us ud fs).run P w=.ok b w
 | [],k,cs,ds,b,h1,h2,h3,h4=>by
  cases cs<;>cases ds<;>simp[qbx] at h2
  subst h2
  simp[Op.eqFields]
 | f::fs,k,cs,ds,b,h1,h2,h3,h4=>by
  obtain⟨j,x,cs',y,ds',r,rfl,rfl,hr,rfl⟩:=qhq (by simpa using h2)
  simp only[qr6,Bool.and_eq_true,bne_iff_ne,beq_iff_eq,ne_eq] at h1
  obtain⟨⟨⟨hn,ho⟩,hi⟩,hrest⟩:=h1
  obtain⟨hp,ki,hu⟩:=qhI hi
  obtain⟨u,e1,r1⟩:=h3 0 (by simp)
  obtain⟨u',e2,r2⟩:=h4 0 (by simp)
  have r1:u=.int j x:=Rep.int_inv (by simpa using r1)
  have r2:u'=.int j y:=Rep.int_inv (by simpa using r2)
  subst r1 r2
  have ih:=qdN d us ud fs (k+1) cs' ds' r hrest hr (fun i hi'=>by have:=h3 (i+1) (by simpa using hi');simpa [Nat.add_assoc,Nat.add_comm 1] using this) (fun i hi'=>by have:=h4 (i+1) (by simpa using hi');simpa [Nat.add_assoc,Nat.add_comm 1] using this)
  have p1:=run_part_plain w hp (xs:=us) (off:=f.offset) (v:=.int j x) (by rw[ho];simpa using e1)
  have p2:=run_part_plain w hp (xs:=ud) (off:=f.offset) (v:=.int j y) (by rw[ho];simpa using e2)
  simp only[Op.eqFields,hn,ne_eq,not_false_eq_true,if_true,Sem.run_bind,p1,p2,Result.andThen_ok,run_equalIn_int w d f.type j ki x y hu]
  cases hxy:(x==y) with
  | true=>simpa using ih
  | false=>simp
theorem qea (d:Nat)(us ud:Array Value){el:TypeId}(hel:qkI P el=true):∀(n k:Nat) (cs ds:List T) (b:Bool),qbx n cs ds=some b→
 (∀i,i<cs.length→∃u,us[k+i]? = some u∧Rep w A μ H u (cs.getD i .undef))→(∀i,i<ds.length→∃u,ud[k+i]? = some u∧Rep w A μ H u (ds.getD i .undef))→
 (Op.eqItems (d+1) el 1 us ud (List.range' k n)).run P w=.ok b w
 | 0,k,cs,ds,b,h2,h3,h4=>by
  cases cs<;>cases ds<;>simp[qbx] at h2
  subst h2
  simp[Op.eqItems]
 | n+1,k,cs,ds,b,h2,h3,h4=>by
  obtain⟨j,x,cs',y,ds',r,rfl,rfl,hr,rfl⟩:=qhq h2
  obtain⟨hp,ki,hu⟩:=qhI hel
  obtain⟨u,e1,r1⟩:=h3 0 (by simp)
  obtain⟨u',e2,r2⟩:=h4 0 (by simp)
  have r1:u=.int j x:=Rep.int_inv (by simpa using r1)
  have r2:u'=.int j y:=Rep.int_inv (by simpa using r2)
  subst r1 r2
  have ih:=qea d us ud hel n (k+1) cs' ds' r hr (fun i hi'=>by have:=h3 (i+1) (by simpa using hi');simpa [Nat.add_assoc,Nat.add_comm 1] using this) (fun i hi'=>by have:=h4 (i+1) (by simpa using hi');simpa [Nat.add_assoc,Nat.add_comm 1] using this)
  have p1:=run_part_plain w hp (xs:=us) (off:=k*1) (v:=.int j x) (by simpa using e1)
  have p2:=run_part_plain w hp (xs:=ud) (off:=k*1) (v:=.int j y) (by simpa using e2)
  rw[List.range'_succ]
  simp only[Op.eqItems,Sem.run_bind,p1,p2,Result.andThen_ok,run_equalIn_int w d el j ki x y hu]
  cases hxy:(x==y) with
  | true=>simpa using ih
  | false=>simp
theorem qil {t:TypeId}{n:Nat}{us ud:Array Value}{cs ds:List T}{b:Bool}(hk:eqk P t=.ints n)(h:qbx n cs ds=some b)(h1:us.size=cs.length)(h2:ud.size=ds.length)
 (r1:∀i,i<cs.length→Rep w A μ H (us.getD i Go.undef) (cs.getD i .undef)) (r2:∀i,i<ds.length→Rep w A μ H (ud.getD i Go.undef) (ds.getD i .undef)) :
 (Op.equalIn 10000 t (.agg us) (.agg ud)).run P w=.ok b w∧P.eqGuardType P.depth t=false:=by
 have g:∀(vs:Array Value) (xs:List T),vs.size=xs.length→(∀i,i<xs.length→Rep w A μ H (vs.getD i Go.undef) (xs.getD i .undef))→∀i,i<xs.length→∃u,vs[0+i]? = some u∧Rep w A μ H u (xs.getD i .undef):=fun vs xs hl hr i hi=>by
  have hi':i<vs.size:=by omega
  have:=hr i hi
  refine⟨vs[i],by simp[hi'],?_⟩
  simpa [hi'] using this
 unfold eqk at hk
 split at hk
 ·cases hk
 ·cases hk
 ·cases hk
 ·rename_i fs hu
  split at hk
  ·rename_i hc
   simp only[Bool.and_eq_true,Bool.not_eq_true'] at hc
   injection hk with hk
   subst hk
   have hfs:P.fieldsOf t=fs:=by simp[Program.fieldsOf,hu]
   refine⟨?_,hc.1.1⟩
   rw[show (10000:Nat)=9998+1+1 from rfl,run_equalIn_struct w 9999 t us ud (by rw[hfs];exact hu) hc.1.2,hfs]
   exact qdN 9998 us ud fs.toList 0 cs ds b hc.2 (by simpa using h) (g us cs h1 r1) (g ud ds h2 r2)
  ·cases hk
 ·rename_i n' el hu
  split at hk
  ·rename_i hc
   simp only[Bool.and_eq_true,Bool.not_eq_true',beq_iff_eq,Option.isSome_iff_exists] at hc
   injection hk with hk
   subst hk
   obtain⟨⟨⟨hg,hi⟩,hc1⟩,i,hin⟩:=hc
   refine⟨?_,hg⟩
   rw[show (10000:Nat)=9998+1+1 from rfl,run_equalIn_array w 9999 us ud hu hin,hc1,List.range_eq_range']
   exact qea 9998 us ud hi n' 0 cs ds b h (g us cs h1 r1) (g ud ds h2 r2)
  ·cases hk
 ·cases hk
theorem quF {op:BinOp}{t t':TypeId}{x y:Operand}{x' y':Opd}(ho:o.op=.binOp op t x y t')(hx:opd x=some x')(hy:opd y=some y')(he:EnvR w A μ H a env)(hS:Sim w A μ H)
 (h:binT op (eqk P t) (x'.ev env) (y'.ev env)=some v):Does P o a w A μ H v H:=by
 have hX:=qas hx he hS.glb
 have hY:=qas hy he hS.glb
 by_cases hagg:∃cs ds,x'.ev env=.agg cs∧y'.ev env=.agg ds
 ·obtain⟨cs,ds,e1,e2⟩:=hagg
  rw[e1] at hX
  rw[e2] at hY
  rw[e1,e2] at h
  simp only[binT] at h
  split at h
  ·rename_i n hk
   split at h
   ·rename_i b hb
    generalize hvx:a.eval x=vx at*
    generalize hvy:a.eval y=vy at*
    cases hX with
    | agg us _ n1 _ q1=>
     cases hY with
     | agg ud _ n2 _ q2=>
      obtain⟨g1,g2⟩:=qil hk hb n1 n2 q1 q2
      unfold eqT at h
      split at h
      ·injection h with h;subst h
       refine Does.val hS (u:=.bool b) ?_ (.bool _)
       unfold execOp
       simp only[ho]
       simp[hvx,hvy,run_eqGuard_agg w .eql t x y us ud g2,run_eql_struct w t us ud,g1]
      ·injection h with h;subst h
       refine Does.val hS (u:=.bool (!b)) ?_ (.bool _)
       unfold execOp
       simp only[ho]
       simp[hvx,hvy,run_eqGuard_agg w .neq t x y us ud g2,run_neq_struct w t us ud,g1]
      ·cases h
   ·cases h
  ·cases h
 suffices hh:∃u,(binOp op t (a.eval x) (a.eval y)).run P w=.ok u w∧Rep w A μ H u v∧(∀c d,¬(a.eval x=.agg c∧a.eval y=.agg d))∧¬(a.eval x=.nilIface∧a.eval y=.nilIface) by
  obtain⟨u,h1,h2,h3,h4⟩:=hh
  refine Does.val hS (u:=u) ?_ h2
  unfold execOp
  simp only[ho]
  simp[qlY (P:=P) (w:=w) h3 h4,h1]
 generalize a.eval x=vx at*
 generalize a.eval y=vy at*
 generalize x'.ev env=tx at*
 generalize y'.ev env=ty at*
 have hkb:eqk P t=.bool→P.underlying t=some .bool:=fun hk=>by
  unfold eqk at hk;split at hk<;>first | (split at hk<;>cases hk;done) | (simp_all;done)
 have hkf:eqk P t=.func→∃ps rs va,P.underlying t=some (.func ps rs va):=fun hk=>by
  unfold eqk at hk;split at hk<;>first | (split at hk<;>cases hk;done) | (simp_all;done)
 have hks:eqk P t=.slice→∃e,P.underlying t=some (.slice e):=fun hk=>by
  unfold eqk at hk;split at hk<;>first | (split at hk<;>cases hk;done) | (simp_all;done)
 unfold binT at h
 split at h
 ·exact absurd ⟨_,_,rfl,rfl⟩ hagg
 ·rename_i j x1 j' x2
  rw[hX.int_inv,hY.int_inv]
  split at h
  ·rename_i hs
   obtain⟨u,h1,h2⟩:=quC (P:=P) (w:=w) (A:=A) (μ:=μ) (H:=H) (t:=t) (j:=j') hs h
   exact⟨u,h1,h2,by simp,by simp⟩
  ·rename_i hs
   split at h
   ·rename_i hj
    subst hj
    obtain⟨u,h1,h2⟩:=qru (P:=P) (w:=w) (A:=A) (μ:=μ) (H:=H) (t:=t) (by simpa using hs) h
    exact⟨u,h1,h2,by simp,by simp⟩
   ·cases h
 ·rw[hX.str_inv,hY.str_inv]
  obtain⟨u,h1,h2⟩:=qrv (P:=P) (w:=w) (A:=A) (μ:=μ) (H:=H) (t:=t) h
  exact⟨u,h1,h2,by simp,by simp⟩
 ·rw[hX.bool_inv,hY.bool_inv]
  split at h
  ·rename_i hk
   have hu:=hkb hk
   split at h
   ·injection h with h;subst h
    exact⟨_,run_eql_bool w t _ _ hu,.bool _,by simp,by simp⟩
   ·injection h with h;subst h
    exact⟨_,run_neq_bool w t _ _ hu,.bool _,by simp,by simp⟩
   ·cases h
  ·cases h
 ·split at h
  ·rename_i hk
   obtain⟨ps,rs,va,hu⟩:=hkf hk
   cases hX;cases hY
   split at h
   ·injection h with h;subst h
    exact⟨_,qcX (.inl rfl) (.inl rfl) (qdP 9999 t ps rs va hu),.bool _,by simp,by simp⟩
   ·injection h with h;subst h
    exact⟨_,qcX (.inr rfl) (.inl rfl) (qdP 9999 t ps rs va hu),.bool _,by simp,by simp⟩
   ·cases h
  ·cases h
 ·split at h
  ·rename_i hk
   obtain⟨ps,rs,va,hu⟩:=hkf hk
   cases hX;cases hY
   split at h
   ·injection h with h;subst h
    exact⟨_,qcX (.inl rfl) (.inr ⟨_,_,_,rfl⟩) (qdO 9999 t ps rs va _ _ _ hu),.bool _,by simp,by simp⟩
   ·injection h with h;subst h
    exact⟨_,qcX (.inr rfl) (.inr ⟨_,_,_,rfl⟩) (qdO 9999 t ps rs va _ _ _ hu),.bool _,by simp,by simp⟩
   ·cases h
  ·cases h
 ·split at h
  ·rename_i hk
   obtain⟨el,hu⟩:=hks hk
   cases hX;cases hY
   split at h
   ·injection h with h;subst h
    exact⟨_,qca (.inl rfl) (qbB 9999 t el _ _ _ hu),.bool _,by simp,by simp⟩
   ·injection h with h;subst h
    exact⟨_,qca (.inr rfl) (qbB 9999 t el _ _ _ hu),.bool _,by simp,by simp⟩
   ·cases h
  ·cases h
 ·split at h
  ·rename_i hk
   obtain⟨el,hu⟩:=hks hk
   cases hY
   have hsome:∃p n c,vx=.slice (some p) n c:=by cases hX<;>exact⟨_,_,_,rfl⟩
   obtain⟨p,n,c,rfl⟩:=hsome
   split at h
   ·injection h with h;subst h
    exact⟨_,qca (.inl rfl) (qbB 9999 t el _ _ _ hu),.bool _,by simp,by simp⟩
   ·injection h with h;subst h
    exact⟨_,qca (.inr rfl) (qbB 9999 t el _ _ _ hu),.bool _,by simp,by simp⟩
   ·cases h
  ·cases h
 ·split at h
  ·rename_i hk
   obtain⟨el,hu⟩:=hks hk
   cases hY
   have hsome:∃p n c,vx=.slice (some p) n c:=by cases hX<;>exact⟨_,_,_,rfl⟩
   obtain⟨p,n,c,rfl⟩:=hsome
   split at h
   ·injection h with h;subst h
    exact⟨_,qca (.inl rfl) (qbB 9999 t el _ _ _ hu),.bool _,by simp,by simp⟩
   ·injection h with h;subst h
    exact⟨_,qca (.inr rfl) (qbB 9999 t el _ _ _ hu),.bool _,by simp,by simp⟩
   ·cases h
  ·cases h
 ·cases h
theorem quM {t:TypeId}{x:Operand}{x':Opd}{b:Bool}(ho:o.op=.unOp .not t x)(hx:opd x=some x')(he:EnvR w A μ H a env)(hS:Sim w A μ H)(hv:x'.ev env=.bool b):Does P o a w A μ H (.bool !b) H:=by
 have h:=qas hx he hS.glb
 rw[hv] at h
 refine Does.val hS (u:=.bool !b) ?_ (.bool _)
 unfold execOp
 simp only[ho,h.bool_inv]
 simp[Op.unary]
theorem quL {t:TypeId}{x:Operand}{x':Opd}{k:IntKind}{n:Int}(ho:o.op=.unOp .neg t x)(hx:opd x=some x')(he:EnvR w A μ H a env)(hS:Sim w A μ H)(hv:x'.ev env=.int k n):Does P o a w A μ H (.int k (k.wrap (0 - n))) H:=by
 have h:=qas hx he hS.glb
 rw[hv] at h
 refine Does.val hS (u:=.int k (k.wrap (0 - n))) ?_ (.int _ _)
 unfold execOp
 simp only[ho,h.int_inv]
 simp[Op.unary,Op.intArith]
theorem qsK {s d:TypeId}{ds:TypeDesc}{k j:IntKind}{n:Int}{x:Operand}{x':Opd}(ho:o.op=.convert s d x)(hs:P.underlying s=some ds)(hd:P.underlying d=some (.int k))(hx:opd x=some x')(he:EnvR w A μ H a env)(hS:Sim w A μ H)
 (hv:x'.ev env=.int j n):Does P o a w A μ H (.int k (k.wrap n)) H:=by
 have h:=qas hx he hS.glb
 rw[hv] at h
 refine Does.val hS (u:=.int k (k.wrap n)) ?_ (.int _ _)
 unfold execOp
 simp only[ho,h.int_inv]
 simp only[convert,Sem.run_bind,run_underlying hs,run_underlying hd,Result.andThen_ok]
 cases ds<;>simp[Conv.intToInt]
theorem qqR {s:TypeId}{fs:Array Field}{fd:Field}{f e:Nat}{cs:List T}{x:Operand}{x':Opd}(ho:o.op=.field s x f)(hu:P.underlying s=some (.struct fs))(hf:fs[f]? = some fd)(hl:lay P fd.type=some e)(hx:opd x=some x')(he:EnvR w A μ H a env)(hS:Sim w A μ H)
 (hv:x'.ev env=.agg cs) (hn:fd.offset+esz e≤cs.length):Does P o a w A μ H (mkEl e ((cs.drop fd.offset).take (esz e))) H:=by
 have h:=qas hx he hS.glb
 rw[hv] at h
 obtain⟨i,hi,hs,ha,hpos⟩:=qci (w:=w) hl
 generalize hvx:a.eval x=vx at h
 cases h with
 | agg us _ hl1 h1 hR=>
  refine Does.val hS (u:=_) ?_ (qfP (us:=(List.range (esz e)).map fun j=>us.getD (fd.offset+j) Go.undef) (by simp;omega) (by simp;omega) (fun c hc=>h1 c (List.mem_of_mem_drop (List.mem_of_mem_take hc))) ?_)
  ·unfold execOp
   simp only[ho,hvx]
   simp only[Instr.field,Sem.run_bind,run_underlying hu,Result.andThen_ok,hf,asAgg,Sem.run_pure,part,ha]
   by_cases h0:e=0
   ·subst h0
    have h2:fd.offset<us.size:=by simp[esz] at hn;omega
    simp[esz,h2]
   ·simp only[h0,ne_eq,not_false_eq_true,decide_true,if_true,Sem.run_bind,sizeOf,typeInfo,run_program,Result.andThen_ok,hi,Sem.run_pure,hs,if_false]
    congr 3
    apply Array.ext'
    simp only[Array.toList_extract]
    apply List.ext_getElem?
    intro j
    by_cases hj:j<esz e
    ·have h2:fd.offset+j<us.size:=by omega
     simp[List.extract,hj,h2]
    ·simp[List.extract,List.getElem?_take,hj]
  ·intro i hi
   have hi':i<esz e:=by simp at hi;omega
   have e1:((List.range (esz e)).map fun j=>us.getD (fd.offset+j) Go.undef).getD i Go.undef=us.getD (fd.offset+i) Go.undef:=by
    simp[List.getD_eq_getElem?_getD,hi']
   have e2:((cs.drop fd.offset).take (esz e)).getD i .undef=cs.getD (fd.offset+i) .undef:=by
    simp[List.getD_eq_getElem?_getD,hi']
   rw[e1,e2]
   exact hR _ (by omega)
theorem qqT {t el:TypeId}{n e:Nat}{cs:List T}{k:IntKind}{j:Int}{x i:Operand}{x' i':Opd}(ho:o.op=.index t x i)(hu:P.underlying t=some (.array n el))(hl:lay P el=some e)(hx:opd x=some x')(hi:opd i=some i')(he:EnvR w A μ H a env)(hS:Sim w A μ H)
 (hv:x'.ev env=.agg cs) (hj:i'.ev env=.int k j) (h0:0≤j) (hn:j<n) (hc:j.toNat*esz e+esz e≤cs.length):Does P o a w A μ H (mkEl e ((cs.drop (j.toNat*esz e)).take (esz e))) H:=by
 have h:=qas hx he hS.glb
 rw[hv] at h
 have hi2:=qas hi he hS.glb
 rw[hj] at hi2
 have hi3:=hi2.int_inv
 obtain⟨inf,hin,hs,ha,hpos⟩:=qci (w:=w) hl
 generalize hvx:a.eval x=vx at h
 cases h with
 | agg us _ hl1 h1 hR=>
  refine Does.val hS (u:=_) ?_ (qfP (us:=(List.range (esz e)).map fun q=>us.getD (j.toNat*esz e+q) Go.undef) (by simp;omega) (by simp;omega) (fun c hc=>h1 c (List.mem_of_mem_drop (List.mem_of_mem_take hc))) ?_)
  ·unfold execOp
   simp only[ho,hvx,hi3]
   simp only[Instr.index,Sem.run_bind,run_underlying hu,Result.andThen_ok,asIntOf,Sem.run_pure,h0,hn,and_self,if_true,part,ha,sizeOf,typeInfo,run_program,hin,hs]
   by_cases h0:e=0
   ·subst h0
    have h2:j.toNat<us.size:=by simp[esz] at hc;omega
    simp[esz,h2]
   ·simp only[h0,ne_eq,not_false_eq_true,decide_true,if_true,Sem.run_bind,run_program,Result.andThen_ok,hin,Sem.run_pure,hs,if_false]
    congr 3
    apply Array.ext'
    simp only[Array.toList_extract]
    apply List.ext_getElem?
    intro q
    by_cases hq:q<esz e
    ·have h2:j.toNat*esz e+q<us.size:=by omega
     simp[List.extract,hq,h2]
    ·simp[List.extract,List.getElem?_take,hq]
  ·intro i hi
   have hi':i<esz e:=by simp at hi;omega
   have e1:((List.range (esz e)).map fun q=>us.getD (j.toNat*esz e+q) Go.undef).getD i Go.undef=us.getD (j.toNat*esz e+i) Go.undef:=by
    simp[List.getD_eq_getElem?_getD,hi']
   have e2:((cs.drop (j.toNat*esz e)).take (esz e)).getD i .undef=cs.getD (j.toNat*esz e+i) .undef:=by
    simp[List.getD_eq_getElem?_getD,hi']
   rw[e1,e2]
   exact hR _ (by omega)
theorem qol {t:TypeId}{s:ByteArray}{k:IntKind}{j:Int}{x i:Operand}{x' i':Opd}(ho:o.op=.index t x i)(hu:P.underlying t=some .string)(hx:opd x=some x')(hi:opd i=some i')(he:EnvR w A μ H a env)(hS:Sim w A μ H)
 (hv:x'.ev env=.str s) (hj:i'.ev env=.int k j) (h0:0≤j) (hn:j.toNat<s.size):Does P o a w A μ H (.int .u8 (qcf s j)) H:=by
 have hby:qcf s j=((s[j.toNat]'hn).toNat:Nat):=by simp[qcf,hn]
 rw[hby]
 have h:=qas hx he hS.glb
 rw[hv] at h
 have hi2:=qas hi he hS.glb
 rw[hj] at hi2
 refine Does.val hS (u:=.int .u8 ((s[j.toNat]'hn).toNat:Nat)) ?_ (.int _ _)
 unfold execOp
 simp only[ho,h.str_inv,hi2.int_inv]
 simp[Instr.index,run_underlying hu,asIntOf,h0,hn]
theorem ql1 {x:Operand}{x':Opd}{i:Nat}{vs:List T}(ho:o.op=.extract x i)(hx:opd x=some x')(he:EnvR w A μ H a env)(hS:Sim w A μ H)(hv:x'.ev env=.tup vs)(hi:i<vs.length):Does P o a w A μ H (vs.getD i .undef) H:=by
 have h:=qas hx he hS.glb
 rw[hv] at h
 generalize hvx:a.eval x=vx at h
 cases h with
 | tup us _ hn hR=>
  refine Does.val hS (u:=us.getD i Go.undef) ?_ (hR i hi)
  unfold execOp
  simp only[ho,hvx]
  have:i<us.size:=by omega
  simp[Instr.extract,this]
theorem qsM {f:FuncId}{first caps:Array Operand}{ys:List Opd}(ho:o.op=.makeFunc (.func f) first caps)(h0:first.size=0)(hx:opds caps.toList=some ys)(he:EnvR w A μ H a env)(hS:Sim w A μ H):Does P o a w A μ H (.fn f (ys.map (·.ev env))) H:=by
 obtain⟨h1,h2⟩:=qg2 hx he hS.glb
 refine Does.val hS (u:=.func (.func f) #[] (caps.map a.eval)) ?_ ?_
 ·unfold execOp
  have:first=#[]:=Array.eq_empty_of_size_eq_zero h0
  simp only[ho,this]
  simp[Instr.makeFunc]
 ·have e:(caps.toList.map a.eval).toArray=caps.map a.eval:=by
   apply Array.ext'
   rw[Array.toList_map]
  rw[e] at h1 h2
  exact .fn f _ _ h1 h2
theorem qqV {x:Operand}{x':Opd}(ho:o.op=.nilCheck x)(hx:opd x=some x')(he:EnvR w A μ H a env)(hS:Sim w A μ H)
 (hv:(match x'.ev env with | .ref .. | .ptr _ | .fn ..=>true | _=>false)=true):Does P o a w A μ H (x'.ev env) H:=by
 have h:=qas hx he hS.glb
 refine Does.val hS (u:=a.eval x) ?_ h
 unfold execOp
 simp only[ho]
 generalize a.eval x=vx at*
 generalize x'.ev env=tx at*
 cases h<;>first | (simp at hv;done) | rfl
theorem qsI {t el:TypeId}{n:Nat}{x:Operand}{ty:Array Operand}{tt:Array TypeId}(ho:o.op=.call { callee:=.builtin .len,args:=#[x],argTypes:=#[t] })(hu:P.underlying t=some (.array n el))(hS:Sim w A μ H):Does P o a w A μ H (.int .i64 n) H:=by
 refine Does.val hS (u:=.int .i64 n) ?_ (.int _ _)
 unfold execOp
 simp only[ho]
 simp[resolve,invoke,builtin,Builtin.len_,run_underlying hu,goInt]
theorem quJ {t el:TypeId}{n:Int}{x:Operand}{x':Opd}(ho:o.op=.call { callee:=.builtin .len,args:=#[x],argTypes:=#[t] })(hu:P.underlying t=some (.slice el))(hx:opd x=some x')(he:EnvR w A μ H a env)(hS:Sim w A μ H)
 (hv:lenT (x'.ev env)=some n):Does P o a w A μ H (.int .i64 n) H:=by
 have h:=qas hx he hS.glb
 refine Does.val hS (u:=.int .i64 n) ?_ (.int _ _)
 unfold execOp
 simp only[ho]
 generalize hvx:a.eval x=vx at h
 generalize x'.ev env=tx at*
 cases h<;>first | (simp[lenT] at hv;done) | (simp only[lenT,Option.some.injEq] at hv;subst hv;simp[hvx,resolve,invoke,builtin,Builtin.len_,run_underlying hu,goInt])
theorem qsP {t:TypeId}{s:ByteArray}{x:Operand}{x':Opd}(ho:o.op=.call { callee:=.builtin .len,args:=#[x],argTypes:=#[t] })(hu:P.underlying t=some .string)(hx:opd x=some x')(he:EnvR w A μ H a env)(hS:Sim w A μ H)
 (hv:x'.ev env=.str s):Does P o a w A μ H (.int .i64 s.size) H:=by
 have h:=qas hx he hS.glb
 rw[hv] at h
 refine Does.val hS (u:=.int .i64 s.size) ?_ (.int _ _)
 unfold execOp
 simp only[ho]
 simp[h.str_inv,resolve,invoke,builtin,Builtin.len_,run_underlying hu,goInt]
theorem qtC {isMax:Bool}{x y:Operand}{x' y':Opd}{k j:IntKind}{p q:Int}{ts:Array TypeId}(ho:o.op=.call { callee:=.builtin (if isMax then .max else .min),args:=#[x,y],argTypes:=ts })(hx:opd x=some x')(hy:opd y=some y')(he:EnvR w A μ H a env)(hS:Sim w A μ H)
 (hv:x'.ev env=.int k p) (hw:y'.ev env=.int j q):Does P o a w A μ H (.int k (if isMax then (if q > p then q else p) else (if q<p then q else p))) H:=by
 have h1:=qas hx he hS.glb
 rw[hv] at h1
 have h2:=qas hy he hS.glb
 rw[hw] at h2
 refine Does.val hS (u:=_) ?_ (.int _ _)
 unfold execOp
 cases isMax
 ·simp only[Bool.false_eq_true,if_false] at ho ⊢
  simp only[ho]
  simp[resolve,invoke,builtin,h1.int_inv,h2.int_inv,run_min_int2]
 ·simp only[if_true] at ho ⊢
  simp only[ho]
  simp[resolve,invoke,builtin,h1.int_inv,h2.int_inv,run_max_int2]
end
section
variable {P:Program} {o:Oper} {a:Act} {w:World} {A:Sta} {μ:Nat→Nat} {H H':Heap} {env:Nat→T} {v:T}
theorem qm8 {p:Addr}{cs:List T}(h:Rep w A μ H (.pointer (some p)) (.ptr cs))(off k:Nat)(hk:off+k≤cs.length):Rep w A μ H (.pointer (some (p.add off))) (.ptr ((cs.drop off).take k)):=by
 cases h with
 | ptr _ _ U h1 hA hU hR=>
  have hlen:((cs.drop off).take k).length=k:=by simp;omega
  refine .ptr _ _ (fun q=>U (off+q)) (fun c hc=>h1 c (List.mem_of_mem_drop (List.mem_of_mem_take hc))) (fun q hq=>?_) (fun q hq=>?_) (fun q hq=>?_)
  ·rw[qbl,qcy,Nat.add_assoc];exact hA _ (by omega)
  ·rw[qj9];exact hU _ (by omega)
  ·have e2:((cs.drop off).take k).getD q .undef=cs.getD (off+q) .undef:=by
    have:q<k:=by omega
    simp[List.getD_eq_getElem?_getD,this]
   rw[e2];exact hR _ (by omega)
theorem Rep.ptr_some {u:Value}{cs:List T}(h:Rep w A μ H u (.ptr cs)):∃p,u=.pointer (some p):=by cases h;exact⟨_,rfl⟩
theorem Rep.ref_some {u:Value}{id tot off:Nat}(h:Rep w A μ H u (.ref id tot off)):∃p,u=.pointer (some p):=by cases h<;>exact⟨_,rfl⟩
theorem qna {p:Addr}{id tot off:Nat}(h:Rep w A μ H (.pointer (some p)) (.ref id tot off))(k:Nat):Rep w A μ H (.pointer (some (p.add k))) (.ref id tot (off+k)):=by
 cases h with
 | ref _ _ _ b hb ht=>rw[qdd];exact .ref _ _ _ b hb ht
 | refS _ _ _ _ hs=>exact .refS _ _ _ _ hs
theorem qqQ {s:TypeId}{fs:Array Field}{fd:Field}{i:TypeInfo}{f:Nat}{x:Operand}{x':Opd}(ho:o.op=.fieldAddr s x f)(hu:P.underlying s=some (.struct fs))(hf:fs[f]? = some fd)(hi:P.info? fd.type=some i)(h0:i.size≠0)(hx:opd x=some x')(he:EnvR w A μ H a env)(hS:Sim w A μ H)
 (hv:req env (.faddr fd.offset i.size x')=some (.val v)):Does P o a w A μ H v H:=by
 have h:=qas hx he hS.glb
 have hrun:∀p,a.eval x=.pointer (some p)→(execOp a.eval o).run P w=.ok (.value (.pointer (some (p.add fd.offset)))) w:=fun p hp=>by
  unfold execOp
  simp only[ho,hp]
  simp[Instr.fieldAt,run_underlying hu,hf,Instr.sureAddr,fieldPlace,sizeOf,typeInfo,hi,h0]
 simp only[req] at hv
 split at hv
 ·rename_i id tot o' hr
  simp only[Option.some.injEq,Req.val.injEq] at hv
  subst hv
  rw[hr] at h
  obtain⟨p,hp⟩:=h.ref_some
  rw[hp] at h
  exact Does.val hS (hrun p hp) (qna h _)
 ·rename_i cs hr
  rw[hr] at h
  split at hv
  ·rename_i hk
   simp only[Option.some.injEq,Req.val.injEq] at hv
   subst hv
   obtain⟨p,hp⟩:=h.ptr_some
   rw[hp] at h
   exact Does.val hS (hrun p hp) (qm8 h _ _ hk)
  ·cases hv
 ·cases hv
theorem qqS {t el:TypeId}{e:Nat}{x i:Operand}{x' i':Opd}(ho:o.op=.indexAddr t x i)(hu:P.underlying t=some (.slice el))(hl:lay P el=some e)(hx:opd x=some x')(hi:opd i=some i')(he:EnvR w A μ H a env)(hS:Sim w A μ H)
 (hv:req env (.iaddr e none x' i')=some (.val v)):Does P o a w A μ H v H:=by
 have h:=qas hx he hS.glb
 have h':=qas hi he hS.glb
 obtain⟨inf,hin,hs,ha,hpos⟩:=qci (w:=w) hl
 have hrun:∀p n c k (j:Int),a.eval x=.slice (some p) n c→a.eval i=.int k j→0≤j→j<n→(execOp a.eval o).run P w=.ok (.value (.pointer (some (p.add (j.toNat*esz e))))) w:=fun p n c k j hp hj h0 hn=>by
  unfold execOp
  simp only[ho,hp,hj]
  simp[Instr.indexAt,run_underlying hu,asIntOf,h0,hn,sizeOf,typeInfo,hin,hs]
 simp only[req] at hv
 split at hv
 ·rename_i id tot e' off n k j hr hj
  rw[hr] at h
  rw[hj] at h'
  split at hv
  ·rename_i hc
   obtain⟨rfl,h0,hn⟩:=hc
   simp only[Option.some.injEq,Req.val.injEq] at hv
   subst hv
   generalize hvx:a.eval x=vx at h
   cases h with
   | sl _ _ _ _ _ c b cur hb ht hcur hnc hm hcc hf=>
    refine Does.val hS (hrun _ _ _ _ _ hvx h'.int_inv h0 hn) ?_
    rw[qdd]
    exact .ref _ _ _ b hb ht
   | slS p c _ _ _ _ _ hnc hs=>exact Does.val hS (hrun _ _ _ _ _ hvx h'.int_inv h0 hn) (.refS _ _ _ _ hs)
  ·cases hv
 ·rename_i xs k j hr hj
  rw[hr] at h
  rw[hj] at h'
  split at hv
  ·rename_i hc
   obtain⟨h0,hn,hk⟩:=hc
   simp only[Option.some.injEq,Req.val.injEq] at hv
   subst hv
   generalize hvx:a.eval x=vx at h
   have hj0:j.toNat<xs.length:=by omega
   cases h with
   | lnil=>simp at hj0
   | list p c k0 _ U hk0 hc h1 hA hU hR=>
    have hmem:xs.getD j.toNat .undef∈xs:=by
     rw[List.getD_eq_getElem?_getD,List.getElem?_eq_getElem hj0];exact List.getElem_mem hj0
    have hke:k0=esz e:=(hk0 _ hmem).symm.trans hk
    subst hke
    have hfl:=qcE hk0
    have hin2:∀q,q<esz e→j.toNat*esz e+q<(flat xs).length:=fun q hq=>by
     rw[hfl]
     have:(j.toNat+1)*esz e≤xs.length*esz e:=Nat.mul_le_mul_right _ hj0
     rw[Nat.add_mul] at this
     omega
    have hcl:(xs.getD j.toNat .undef).cells.length=esz e:=hk
    refine Does.val hS (hrun _ _ _ _ _ hvx h'.int_inv h0 hn) (.ptr _ _ (fun q=>U (j.toNat*esz e+q)) (fun y hy=>?_) (fun q hq=>?_) (fun q hq=>?_) (fun q hq=>?_))
    ·exact h1 y (List.mem_flatMap.2 ⟨_,hmem,hy⟩)
    ·rw[qbl,qcy,Nat.add_assoc];exact hA _ (hin2 q (by omega))
    ·rw[qj9];exact hU _ (hin2 q (by omega))
    ·have:=hR _ (hin2 q (by omega))
     rw[qks _ _ hk0 hj0 (by omega)] at this
     exact this
  ·cases hv
 ·cases hv
theorem qok {t el:TypeId}{n e:Nat}{x i:Operand}{x' i':Opd}(ho:o.op=.indexAddr t x i)(hu:P.underlying t=some (.array n el))(hl:lay P el=some e)(hx:opd x=some x')(hi:opd i=some i')(he:EnvR w A μ H a env)(hS:Sim w A μ H)
 (hv:req env (.iaddr e (some n) x' i')=some (.val v)):Does P o a w A μ H v H:=by
 have h:=qas hx he hS.glb
 have h':=qas hi he hS.glb
 obtain⟨inf,hin,hs,ha,hpos⟩:=qci (w:=w) hl
 have hrun:∀p k (j:Int),a.eval x=.pointer (some p)→a.eval i=.int k j→0≤j→j<n→(execOp a.eval o).run P w=.ok (.value (.pointer (some (p.add (j.toNat*esz e))))) w:=fun p k j hp hj h0 hn=>by
  unfold execOp
  simp only[ho,hp,hj]
  simp[Instr.indexAt,run_underlying hu,asIntOf,h0,hn,sizeOf,typeInfo,hin,hs,Instr.sureAddr]
 simp only[req] at hv
 split at hv
 ·rename_i id tot o' k j hr hj
  rw[hr] at h
  rw[hj] at h'
  split at hv
  ·rename_i hc
   simp only[Option.some.injEq,Req.val.injEq] at hv
   subst hv
   obtain⟨p,hp⟩:=h.ref_some
   rw[hp] at h
   exact Does.val hS (hrun p _ _ hp h'.int_inv hc.1 hc.2) (qna h _)
  ·cases hv
 ·rename_i cs k j hr hj
  rw[hr] at h
  rw[hj] at h'
  split at hv
  ·rename_i hc
   simp only[Option.some.injEq,Req.val.injEq] at hv
   subst hv
   obtain⟨p,hp⟩:=h.ptr_some
   rw[hp] at h
   exact Does.val hS (hrun p _ _ hp h'.int_inv hc.1 hc.2.1) (qm8 h _ _ hc.2.2)
  ·cases hv
 ·cases hv
theorem qdM {s:Bool}{lo hi:Option Value}{l h n c:Nat}(hlo:lo=none∧l=0∨∃k,lo=some (.int k l))(hhi:hi=none∧h=n∨∃k,hi=some (.int k h))(hlh:l≤h)(hhc:h≤c):(Instr.sliceBounds s n c lo hi none).run P w=.ok (l,h,c) w:=by
 have hb:∀(k:IntKind) (i y:Nat) code,i≤y→(Instr.sliceBound (.int k i) y code).run P w=.ok i w:=fun k i y code hi=>by
  have:=run_sliceBound (P:=P) w k i y code (by omega) (by omega)
  simpa using this
 rcases hlo with⟨rfl,rfl⟩ | ⟨k,rfl⟩<;>rcases hhi with⟨rfl,rfl⟩ | ⟨k',rfl⟩<;>simp[Instr.sliceBounds,hb,hlh,hhc]
theorem qtu {lo:Option Operand}{lo':Option Opd}{l:Nat}(hl:oopd lo=some lo')(he:EnvR w A μ H a env)(hg:qcp w A)(h:loI (lo'.map (·.ev env))=some l):lo.map a.eval=none∧l=0∨∃k,lo.map a.eval=some (.int k l):=by
 cases lo with
 | none=>
  simp only[oopd,Option.some.injEq] at hl
  subst hl
  simp only[loI,Option.map_none,Option.some.injEq] at h
  exact .inl ⟨rfl,h.symm⟩
 | some x=>
  simp only[oopd] at hl
  cases hx:opd x with
  | none=>simp[hx] at hl
  | some y=>
   simp only[hx,Option.map_some,Option.some.injEq] at hl
   subst hl
   have hr:=qas hx he hg
   simp only[Option.map_some] at h ⊢
   unfold loI at h
   split at h
   ·simp_all
   ·rename_i k j hj
    injection hj with hj
    rw[hj] at hr
    split at h
    ·rename_i h0
     injection h with h
     refine .inr ⟨k,?_⟩
     rw[hr.int_inv,←h,Int.toNat_of_nonneg h0]
    ·cases h
   ·cases h
theorem qtr {hi:Option Operand}{hi':Option Opd}{n l:Nat}(hl:oopd hi=some hi')(he:EnvR w A μ H a env)(hg:qcp w A)(h:hiI n (hi'.map (·.ev env))=some l):hi.map a.eval=none∧l=n∨∃k,hi.map a.eval=some (.int k l):=by
 cases hi with
 | none=>
  simp only[oopd,Option.some.injEq] at hl
  subst hl
  simp only[hiI,Option.map_none,Option.some.injEq] at h
  exact .inl ⟨rfl,h.symm⟩
 | some x=>
  simp only[oopd] at hl
  cases hx:opd x with
  | none=>simp[hx] at hl
  | some y=>
   simp only[hx,Option.map_some,Option.some.injEq] at hl
   subst hl
   have hr:=qas hx he hg
   simp only[Option.map_some] at h ⊢
   unfold hiI at h
   split at h
   ·simp_all
   ·rename_i k j hj
    injection hj with hj
    rw[hj] at hr
    split at h
    ·rename_i h0
     injection h with h
     refine .inr ⟨k,?_⟩
     rw[hr.int_inv,←h,Int.toNat_of_nonneg h0]
    ·cases h
   ·cases h
theorem qpD {p:Option Addr}{n c e:Nat}{xs:List T}(h:Rep w A μ H (.slice p n c) (.list xs))(hsz:sizedB e xs=true)(l m:Nat)(hlm:l≤m)(hm:m≤n) :
 Rep w A μ H (sliced p l m c (esz e)) (.list ((xs.drop l).take (m - l))):=by
 cases h with
 | lnil=>
  have h1:l=0:=by omega
  have h2:m=0:=by omega
  subst h1;subst h2
  simp[sliced]
  exact .lnil
 | list a c k _ U hk hc h1 hA hU hR=>
  have hlen:((xs.drop l).take (m - l)).length=m - l:=by simp;omega
  unfold sliced
  by_cases hcl:c=l
  ·have hml:m=l:=by omega
   subst hml
   simp only[hcl,if_true,Nat.sub_self,List.take_zero]
   exact .list a 0 k [] U (fun x hx=>by cases hx) (Nat.le_refl _) (fun x hx=>by cases hx) (fun q hq=>by simp[flat] at hq) (fun q hq=>by simp[flat] at hq) (fun q hq=>by simp[flat] at hq)
  ·rw[if_neg hcl]
   simp only[Option.map_some]
   rw[show m - l=((xs.drop l).take (m - l)).length from hlen.symm]
   conv=>rhs;rw[hlen]
   have hflat:∀q,q<(flat ((xs.drop l).take (m - l))).length→(xs.length≠0→k=esz e)→l*k+q<(flat xs).length∧(flat ((xs.drop l).take (m - l))).getD q .undef=(flat xs).getD (l*k+q) .undef:=fun q hq _=>by
    have q2:=Nat.lt_of_lt_of_le hq (qkt (xs:=xs.drop l) (m - l))
    rw[qht l hk,List.length_drop] at q2
    refine⟨by omega,?_⟩
    rw[qjl _ _ hq,qht l hk]
    simp[List.getD_eq_getElem?_getD]
   have hke:xs.length≠0→k=esz e:=fun hne=>by
    cases xs with
    | nil=>simp at hne
    | cons y ys=>
     have a1:=hk y (List.mem_cons_self ..)
     have a2:=(List.all_eq_true.1 hsz) y (List.mem_cons_self ..)
     simp at a2
     omega
   have hne:∀q,q<(flat ((xs.drop l).take (m - l))).length→k=esz e:=fun q hq=>hke fun h0=>by
    have:xs=[]:=List.eq_nil_of_length_eq_zero h0
    subst this
    simp[flat] at hq
   refine .list _ _ k _ (fun q=>U (l*k+q)) ((hk.drop l).take _) (by rw[hlen];omega) (fun x hx=>?_) (fun q hq=>?_) (fun q hq=>?_) (fun q hq=>?_)
   ·obtain⟨y,hy,hx⟩:=List.mem_flatMap.1 hx
    exact h1 x (List.mem_flatMap.2 ⟨y,List.mem_of_mem_drop (List.mem_of_mem_take hy),hx⟩)
   ·rw[qbl,qcy,Nat.add_assoc,←hne q hq];exact hA _ (hflat q hq hke).1
   ·rw[qj9,←hne q hq];exact hU _ (hflat q hq hke).1
   ·rw[(hflat q hq hke).2];exact hR _ (hflat q hq hke).1
theorem qqX {t el:TypeId}{e:Nat}{x:Operand}{lo hi:Option Operand}{x':Opd}{lo' hi':Option Opd}(ho:o.op=.slice t x lo hi none)(hu:P.underlying t=some (.slice el))(hl:lay P el=some e)(hx:opd x=some x')(hlo:oopd lo=some lo')(hhi:oopd hi=some hi')(he:EnvR w A μ H a env)(hS:Sim w A μ H)
 (hv:qh6 e (x'.ev env) (lo'.map (·.ev env)) (hi'.map (·.ev env))=some v):Does P o a w A μ H v H:=by
 have h:=qas hx he hS.glb
 obtain⟨inf,hin,hs,ha,hpos⟩:=qci (w:=w) hl
 have hel:P.elem t=el:=by simp[Program.elem,hu]
 have hrun:∀p n c l m,a.eval x=.slice p n c→loI (lo'.map (·.ev env))=some l→hiI n (hi'.map (·.ev env))=some m→l≤m→m≤c→(execOp a.eval o).run P w=.ok (.value (sliced p l m c (esz e))) w:=fun p n c l m hp h1 h2 h3 h4=>by
  have hb:=qdM (P:=P) (w:=w) (s:=true) (c:=c) (qtu hlo he hS.glb h1) (qtr hhi he hS.glb h2) h3 h4
  unfold execOp
  simp only[ho,hp,Option.map_none]
  simp[Instr.sliceAt,run_underlying hu,Instr.slice,hb,sizeOf,typeInfo,hin,hs,sliced]
 unfold qh6 at hv
 split at hv
 ·rename_i hr
  rw[hr] at h
  split at hv
  ·rename_i l m h1 h2
   split at hv
   ·rename_i hc
    obtain⟨rfl,rfl⟩:=hc
    injection hv with hv
    subst hv
    generalize hvx:a.eval x=vx at h
    cases h
    refine Does.val hS (hrun _ _ _ _ _ hvx h1 h2 (Nat.le_refl _) (Nat.le_refl _)) ?_
    simp[sliced]
    exact .nil
   ·cases hv
  ·cases hv
 ·rename_i xs hr
  rw[hr] at h
  split at hv
  ·rename_i l m h1 h2
   split at hv
   ·rename_i hc
    obtain⟨c1,c2,c3⟩:=hc
    injection hv with hv
    subst hv
    have hsh:∃p c,a.eval x=.slice p xs.length c∧xs.length≤c:=by
     generalize a.eval x=vx at h
     cases h with
     | lnil=>exact⟨_,_,rfl,Nat.le_refl _⟩
     | list _ _ _ _ _ _ hc=>exact⟨_,_,rfl,hc⟩
    obtain⟨p,c,hp,hc⟩:=hsh
    rw[hp] at h
    exact Does.val hS (hrun _ _ _ _ _ hp h1 h2 c1 (by omega)) (qpD h c3 l m c1 c2)
   ·cases hv
  ·cases hv
 ·rename_i id tot e' off n hr
  rw[hr] at h
  split at hv
  ·rename_i l m h1 h2
   split at hv
   ·rename_i hc
    obtain⟨rfl,c1,c2⟩:=hc
    have hsh:∃p c,a.eval x=.slice (some p) n c∧n≤c:=by
     generalize a.eval x=vx at h
     cases h with
     | sl=>exact⟨_,_,rfl,by assumption⟩
     | slS=>exact⟨_,_,rfl,by assumption⟩
    obtain⟨p,c,hp,hc⟩:=hsh
    have hr2:=hrun _ _ _ _ _ hp h1 h2 c1 (by omega)
    rw[hp] at h
    split at hv
    ·rename_i hlm
     subst hlm
     injection hv with hv
     subst hv
     refine Does.val hS hr2 ?_
     unfold sliced
     rw[Nat.sub_self]
     have:∃q,(if c=l then some p else Option.map (fun x=>x.add (l*esz e')) (some p))=some q:=by split<;>exact⟨_,rfl⟩
     obtain⟨q,hq⟩:=this
     rw[hq]
     exact .list q _ 0 [] (fun _=>Go.undef) (fun x hx=>by cases hx) (Nat.zero_le _) (fun x hx=>by cases hx) (fun q hq=>by simp[flat] at hq) (fun q hq=>by simp[flat] at hq) (fun q hq=>by simp[flat] at hq)
    ·rename_i hlm
     injection hv with hv
     subst hv
     refine Does.val hS hr2 ?_
     unfold sliced
     rw[if_neg (by omega)]
     simp only[Option.map_some]
     cases h with
     | sl _ _ _ _ _ _ b cur hb ht hcur hnc hm hcc hf=>
      rw[qdd]
      have e1:l*esz e'+(c - l)*esz e'=c*esz e':=by rw[←Nat.add_mul];congr 1;omega
      have e2:l*esz e'+(m - l)*esz e'=m*esz e':=by rw[←Nat.add_mul];congr 1;omega
      have e3:m*esz e'≤n*esz e':=Nat.mul_le_mul_right _ c2
      exact .sl _ _ _ _ _ _ b cur hb ht hcur (by omega) (by omega) (by omega) (by omega)
     | slS _ _ _ _ _ _ _ hnc hs=>exact .slS _ _ _ _ _ _ _ (by omega) hs
   ·cases hv
  ·cases hv
 ·cases hv
theorem qom {t:TypeId}{s:ByteArray}{x:Operand}{lo hi:Option Operand}{x':Opd}{lo' hi':Option Opd}{l m:Nat}(ho:o.op=.slice t x lo hi none)(hu:P.underlying t=some .string)(hx:opd x=some x')(hlo:oopd lo=some lo')(hhi:oopd hi=some hi')(he:EnvR w A μ H a env)(hS:Sim w A μ H)
 (hv:x'.ev env=.str s) (h1:loI (lo'.map (·.ev env))=some l) (h2:hiI s.size (hi'.map (·.ev env))=some m) (h3:l≤m) (h4:m≤s.size):Does P o a w A μ H (.str (s.extract l m)) H:=by
 have h:=qas hx he hS.glb
 rw[hv] at h
 have hb:=qdM (P:=P) (w:=w) (s:=false) (c:=s.size) (qtu hlo he hS.glb h1) (qtr hhi he hS.glb h2) h3 h4
 refine Does.val hS (u:=.string (s.extract l m)) ?_ (.str _)
 unfold execOp
 simp only[ho,h.str_inv,Option.map_none]
 simp[Instr.sliceAt,run_underlying hu,Instr.slice,hb]
end
theorem qpc (cur:Array Value)(n k:Nat)(hk:k<n):(cur.extract 0 n).getD k Go.undef=cur.getD k Go.undef:=by
 simp only[Array.getD_eq_getD_getElem?,Array.getElem?_extract]
 by_cases h:k<cur.size
 ·rw[if_pos (by omega)];simp
 ·rw[if_neg (by omega),Array.getElem?_eq_none (by omega)]
theorem qph (off:Nat):∀(us:List Value) (cs:Array Value) (i:Nat),
 ((us.zipIdx i).foldl (fun (cs:Array Value) (x:Value×Nat)=>cs.setIfInBounds (off+x.2) x.1) cs).size=cs.size∧
 ∀k,k<cs.size→((us.zipIdx i).foldl (fun (cs:Array Value) (x:Value×Nat)=>cs.setIfInBounds (off+x.2) x.1) cs).getD k Go.undef=if off+i≤k∧k<off+i+us.length then us.getD (k - (off+i)) Go.undef else cs.getD k Go.undef
 | [],cs,i=>⟨rfl,fun k hk=>by
  have:¬(off+i≤k∧k<off+i+([]:List Value).length):=by simp only[List.length_nil];omega
  rw[if_neg this];rfl⟩
 | u::us,cs,i=>by
  obtain⟨h1,h2⟩:=qph off us (cs.setIfInBounds (off+i) u) (i+1)
  refine⟨by simpa [List.zipIdx_cons] using h1,fun k hk=>?_⟩
  have h3:=h2 k (by simpa using hk)
  rw[List.zipIdx_cons,List.foldl_cons,h3]
  by_cases h:off+(i+1)≤k∧k<off+(i+1)+us.length
  ·rw[if_pos h,if_pos (by simp;omega)]
   have e:k - (off+i)=(k - (off+(i+1)))+1:=by omega
   rw[e];rfl
  ·rw[if_neg h]
   by_cases e:k=off+i
   ·subst e
    rw[if_pos (by simp)]
    simp[hk]
   ·rw[if_neg (by simp;omega)]
    simp only[Array.getD_eq_getD_getElem?]
    rw[Array.getElem?_setIfInBounds_ne (by omega)]
section
variable {P:Program} {o:Oper} {a:Act} {w w':World} {A:Sta} {μ:Nat→Nat} {H H':Heap} {env:Nat→T} {v:T}
def qe7 (w:World)(A:Sta)(μ:Nat→Nat)(H:Heap)(cur:Array Value)(cs:List T):Prop:=
 cur.size=cs.length∧Ones cs∧∀k,k<cs.length→Rep w A μ H (cur.getD k Go.undef) (cs.getD k .undef)
theorem qe5 {xs cs:List T}{off k:Nat}(h:off+cs.length≤xs.length)(hk:k<xs.length):(splice xs off cs).getD k .undef=if off≤k∧k<off+cs.length then cs.getD (k - off) .undef else xs.getD k .undef:=by
 unfold splice
 simp only[List.getD_eq_getElem?_getD]
 by_cases h1:k<off
 ·rw[if_neg (by omega),List.append_assoc,List.getElem?_append_left (by simp;omega),List.getElem?_take,if_pos h1]
 ·by_cases h2:k<off+cs.length
  ·rw[if_pos (by omega),List.append_assoc,List.getElem?_append_right (by simp;omega),List.getElem?_append_left (by simp;omega)]
   congr 2
   simp
   omega
  ·rw[if_neg (by omega),List.getElem?_append_right (by simp;omega),List.getElem?_drop]
   congr 2
   simp
   omega
theorem qaZ {xs cs:List T}{off:Nat}(h:off+cs.length≤xs.length):(splice xs off cs).length=xs.length:=by
 simp[splice];omega
theorem qd7 {xs cs:List T}{off:Nat}(h1:Ones xs)(h2:Ones cs):Ones (splice xs off cs):=fun c hc=>by
 unfold splice at hc
 rcases List.mem_append.1 hc with hc | hc
 ·rcases List.mem_append.1 hc with hc | hc
  ·exact h1 c (List.mem_of_mem_take hc)
  ·exact h2 c hc
 ·exact h1 c (List.mem_of_mem_drop hc)
theorem qhi {u:Value}{x:T}(h:Rep w A μ H u x)(hx:okc x=true):qe7 w A μ H u.cells x.cells:=by
 have one:∀ {u:Value} {x:T},Rep w A μ H u x→x.one=true→x.cells=[x]→u.cells=#[u]→qe7 w A μ H u.cells x.cells:=fun {u x} h h1 h2 h3=>by
  rw[h2,h3]
  refine⟨rfl,fun c hc=>by rw[List.mem_singleton.1 hc];exact h1,fun k hk=>?_⟩
  have:k=0:=by simpa using hk
  subst this
  exact h
 cases h with
 | undef=>simp[okc] at hx
 | tup=>simp[okc] at hx
 | agg us cs hn h1 h=>exact⟨hn,h1,h⟩
 | bool b=>exact one (.bool b) rfl rfl rfl
 | int k n=>exact one (.int k n) rfl rfl rfl
 | str s=>exact one (.str s) rfl rfl rfl
 | list a c k xs U hk hc h1 hA hU hR=>exact one (.list a c k xs U hk hc h1 hA hU hR) rfl rfl rfl
 | lnil=>exact one .lnil rfl rfl rfl
 | nil=>exact one .nil rfl rfl rfl
 | emp p=>exact one (.emp p) rfl rfl rfl
 | ptr a cs U h1 hA hU hR=>exact one (.ptr a cs U h1 hA hU hR) rfl rfl rfl
 | nilp=>exact one .nilp rfl rfl rfl
 | fn f us caps hn h=>exact one (.fn f us caps hn h) rfl rfl rfl
 | nilfn=>exact one .nilfn rfl rfl rfl
 | ref id tot off b hb ht=>exact one (.ref id tot off b hb ht) rfl rfl rfl
 | refS p id tot off hs=>exact one (.refS p id tot off hs) rfl rfl rfl
 | sl id tot e off n c b cur hb ht hcur hn hm hc hf=>exact one (.sl id tot e off n c b cur hb ht hcur hn hm hc hf) rfl rfl rfl
 | slS p c id tot e off n hn hs=>exact one (.slS p c id tot e off n hn hs) rfl rfl rfl
 | mp id es h=>exact one (.mp id es h) rfl rfl rfl
 | mpS r id h=>exact one (.mpS r id h) rfl rfl rfl
 | nilmp=>exact one .nilmp rfl rfl rfl
inductive PartsR (w:World) (A:Sta) (μ:Nat→Nat) (H:Heap) (env:Nat→T) (place:Nat→Option (Nat×Nat)):List (Nat×Value)→List (Nat×Nat×Opd)→Prop
 | nil:PartsR w A μ H env place [] []
 | cons {i u off k y ps l} (h:place i=some (off,k)) (hr:Rep w A μ H u (y.ev env)) (t:PartsR w A μ H env place ps l):PartsR w A μ H env place ((i,u)::ps) ((off,k,y)::l)
theorem qjj {place:Nat→Option (Nat×Nat)}{ps:List (Nat×Value)}{l:List (Nat×Nat×Opd)}(hp:PartsR w A μ H env place ps l):∀ {cur:Array Value} {cs cs':List T},qe7 w A μ H cur cs→qcP env l cs=some cs'→
 ∃cur',Instr.fill place cur ps=some cur'∧qe7 w A μ H cur' cs':=by
 induction hp with
 | nil=>intro cur cs cs' h hf;simp only[qcP,Option.some.injEq] at hf;subst hf;exact⟨cur,rfl,h⟩
 | @cons i u off k y ps l hpl hr t ih=>
  intro cur cs cs' h hf
  simp only[qcP] at hf
  split at hf
  ·rename_i hc
   obtain⟨h1,h2,h3⟩:=hc
   obtain⟨c1,c2,c3⟩:=qhi hr h3
   obtain⟨d1,d2,d3⟩:=h
   have hz:u.cells.zipIdx.foldl (fun (cs:Array Value) (x:Value×Nat)=>cs.setIfInBounds (off+x.2) x.1) cur=(u.cells.toList.zipIdx 0).foldl (fun (cs:Array Value) (x:Value×Nat)=>cs.setIfInBounds (off+x.2) x.1) cur:=by
    rw[←Array.foldl_toList,Array.toList_zipIdx]
   obtain⟨f1,f2⟩:=qph off u.cells.toList cur 0
   refine (ih (cur:=u.cells.zipIdx.foldl (fun (cs:Array Value) (x:Value×Nat)=>cs.setIfInBounds (off+x.2) x.1) cur) ⟨?_,?_,?_⟩ hf).imp fun cur' hh=>⟨?_,hh.2⟩
   ·rw[hz,f1,qaZ (by omega)];exact d1
   ·exact qd7 d2 c2
   ·intro q hq
    rw[qaZ (by omega)] at hq
    rw[hz,f2 q (by omega),qe5 (by omega) hq]
    simp only[Nat.add_zero,Array.length_toList,c1]
    split
    ·rename_i hq2
     rw[getD_toList]
     exact c3 _ (by omega)
    ·exact d3 q hq
   ·unfold Instr.fill
    rw[hpl]
    simp only[]
    rw[if_neg (by simp;omega)]
    exact hh.1
  ·cases hf
theorem qgj {k:Nat}:∀ {ps:List (Nat×Operand)} {l:List (Nat×Nat×Opd)},qfc k ps=some l→EnvR w A μ H a env→qcp w A→PartsR w A μ H env (fun i=>some (i*k,k)) (ps.map fun (i,x)=>(i,a.eval x)) l
 | [],l,h,he,hg=>by simp only[qfc,Option.some.injEq] at h;subst h;exact .nil
 | (i,x)::r,l,h,he,hg=>by
  unfold qfc at h
  split at h
  ·rename_i y ys h1 h2
   injection h with h;subst h
   exact .cons rfl (qas h1 he hg) (qgj h2 he hg)
  ·cases h
theorem qiQ:∀ {fs:List Field} {places:List (Nat×Nat)},fs.mapM (fun f=>(P.info? f.type).map fun i=>(f.offset,i.size))=some places→∀(i:Nat) (f:Field) (k:TypeInfo),fs[i]? = some f→P.info? f.type=some k→places[i]? = some (f.offset,k.size)
 | [],_,_,i,f,k,h,_=>by simp at h
 | g::fs,places,hm,i,f,k,h,hk=>by
  simp only[List.mapM_cons,Option.bind_eq_bind,Option.pure_def] at hm
  cases hi:P.info? g.type with
  | none=>simp[hi] at hm
  | some ig=>
   cases hr:fs.mapM (fun f=>(P.info? f.type).map fun i=>(f.offset,i.size)) with
   | none=>simp[hi,hr] at hm
   | some rest=>
    simp[hi,hr] at hm
    subst hm
    cases i with
    | zero=>
     simp at h
     subst h
     rw[hi] at hk
     injection hk with hk
     subst hk
     rfl
    | succ i=>exact qiQ hr i f k (by simpa using h) hk
theorem qhY:∀ {fs:List Field},(fs.all fun f=>(P.info? f.type).isSome)=true→∃places,fs.mapM (fun f=>(P.info? f.type).map fun i=>(f.offset,i.size))=some places
 | [],_=>⟨[],rfl⟩
 | g::fs,h=>by
  simp only[List.all_cons,Bool.and_eq_true] at h
  obtain⟨pl,hp⟩:=qhY h.2
  obtain⟨i,hi⟩:=Option.isSome_iff_exists.1 h.1
  exact⟨(g.offset,i.size)::pl,by simp[List.mapM_cons,hi,hp]⟩
theorem qiP {fs:Array Field}{places:List (Nat×Nat)}(hm:fs.toList.mapM (fun f=>(P.info? f.type).map fun i=>(f.offset,i.size))=some places):∀ {ps:List (Nat×Operand)} {l:List (Nat×Nat×Opd)},qiO fs P ps=some l→EnvR w A μ H a env→qcp w A→PartsR w A μ H env (places.toArray[·]?) (ps.map fun (i,x)=>(i,a.eval x)) l
 | [],l,h,he,hg=>by simp only[qiO,Option.some.injEq] at h;subst h;exact .nil
 | (i,x)::r,l,h,he,hg=>by
  unfold qiO at h
  split at h
  ·rename_i f y ys h1 h2 h3
   split at h
   ·rename_i k hk
    injection h with h;subst h
    refine .cons ?_ (qas h2 he hg) (qiP hm h3 he hg)
    have:=qiQ hm i f k (by simpa using h1) hk
    simpa using this
   ·cases h
  ·cases h
theorem qgx {t:TypeId}{zs:List T}(h:zer P t=some zs):∃i z,P.info? t=some i∧i.zero=some z∧qe7 w A μ H z.cells zs:=by
 unfold zer at h
 split at h
 ·rename_i z hz
  cases hi:P.info? t with
  | none=>simp[hi] at hz
  | some i=>
   simp[hi] at hz
   obtain⟨h1,h2,h3⟩:=qj8 (w:=w) (A:=A) (μ:=μ) (H:=H) h
   exact⟨i,z,rfl,hz,by simpa using h1,h2,fun k hk=>by rw[←getD_toList];exact h3 k hk⟩
 ·cases h
theorem qfD {fresh:Nat}{ty:TypeId}{cur:Array Value}{cs:List T}{u:Value}(hS:Sim w A μ H)(hf:H fresh=.free)(hc:qe7 w A μ H (cur.extract 0 cs.length) cs)(hle:cs.length≤cur.size)
 (h:(execOp a.eval o).run P w=.ok (.value u) (w.alloc (.cells cur ty))) (hr:Rep (w.alloc (.cells cur ty)) A (setMu μ fresh w.heap.size) (H.set fresh (.live ⟨ty,cs⟩)) u v):Does P o a w A μ H v (H.set fresh (.live ⟨ty,cs⟩)):=by
 have hnew:(w.alloc (.cells cur ty)).heap[w.heap.size]? = some (.cells cur ty):=heap_alloc_new w _
 obtain⟨c1,c2,c3⟩:=hc
 obtain⟨hT,hS'⟩:=qft (w':=w.alloc (.cells cur ty)) (id:=fresh) (g:=w.heap.size) (ty:=ty) (cs:=cs) (cur:=cur) hS rfl ⟨rfl,Nat.le_refl _⟩ rfl (by simp) (fun b hb _=>heap_alloc_old w _ hb) hnew (.inl (Nat.le_refl _)) (.inl hf) hle c2 (fun k hk=>by
  have:=c3 k hk
  rw[qpc _ _ _ hk] at this
  exact this)
 exact⟨_,u,_,_,h,.inl rfl,hr,hS',hT⟩
theorem qe7.full {cur:Array Value}{cs:List T}(h:qe7 w A μ H cur cs):qe7 w A μ H (cur.extract 0 cs.length) cs∧cs.length≤cur.size:=by
 rw[←h.1,Array.extract_size]
 exact⟨h,Nat.le_refl _⟩
theorem qqO {fresh:Nat}{t:TypeId}{zs:List T}(ho:o.op=.alloc t)(hz:zer P t=some zs)(hS:Sim w A μ H)(hf:H fresh=.free):Does P o a w A μ H (.ref fresh zs.length 0) (H.set fresh (.live ⟨t,zs⟩)):=by
 obtain⟨i,z,hi,hz',hc⟩:=qgx (w:=w) (A:=A) (μ:=μ) (H:=H) hz
 refine qfD (cur:=z.cells) hS hf hc.full.1 hc.full.2 (u:=.pointer (some ⟨w.heap.size,0,none⟩)) ?_ ?_
 ·unfold execOp
  simp only[ho]
  simp[Instr.alloc,zeroValue,typeInfo,hi,hz',newVar,newRow]
 ·have:=Rep.ref (w:=w.alloc (.cells z.cells t)) (A:=A) (μ:=setMu μ fresh w.heap.size) (H:=H.set fresh (.live ⟨t,zs⟩)) fresh zs.length 0 ⟨t,zs⟩ (Heap.set_same _ _ _) rfl
  simpa [setMu] using this
theorem quG {fresh:Nat}{t:TypeId}{x:Operand}{x':Opd}(ho:o.op=.box t x)(hx:opd x=some x')(he:EnvR w A μ H a env)(hS:Sim w A μ H)(hok:okc (x'.ev env)=true)(hf:H fresh=.free) :
 Does P o a w A μ H (.ref fresh (x'.ev env).cells.length 0) (H.set fresh (.live ⟨t,(x'.ev env).cells⟩)):=by
 have h:=qhi (qas hx he hS.glb) hok
 refine qfD (cur:=(a.eval x).cells) hS hf h.full.1 h.full.2 (u:=.pointer (some ⟨w.heap.size,0,none⟩)) ?_ ?_
 ·unfold execOp
  simp only[ho]
  simp[Instr.box,newVar,newRow]
 ·have:=Rep.ref (w:=w.alloc (.cells (a.eval x).cells t)) (A:=A) (μ:=setMu μ fresh w.heap.size) (H:=H.set fresh (.live ⟨t,(x'.ev env).cells⟩)) fresh (x'.ev env).cells.length 0 ⟨t,(x'.ev env).cells⟩ (Heap.set_same _ _ _) rfl
  simpa [setMu] using this
theorem qed (ps:Array (Nat×Operand)):(ps.map fun (i,x)=>(i,a.eval x)).toList=ps.toList.map fun (i,x)=>(i,a.eval x):=by simp
theorem qk9 {t:TypeId}{zs cs:List T}{ps:Array (Nat×Operand)}{l:List (Nat×Nat×Opd)}(ho:o.op=.build t ps)(hz:zer P t=some zs)
 (hd:(∃fs,P.underlying t=some (.struct fs)∧qiO fs P ps.toList=some l∧(fs.all fun f=>(P.info? f.type).isSome)=true)∨(∃n el i,P.underlying t=some (.array n el)∧P.info? el=some i∧qfc i.size ps.toList=some l))
 (he:EnvR w A μ H a env) (hS:Sim w A μ H) (hv:qcP env l zs=some cs):Does P o a w A μ H (.agg cs) H:=by
 obtain⟨i,z,hi,hz',hc⟩:=qgx (w:=w) (A:=A) (μ:=μ) (H:=H) hz
 suffices hh:∃cur,P.built t (ps.map fun (i,x)=>(i,a.eval x)).toList=some cur∧qe7 w A μ H cur cs by
  obtain⟨cur,h1,h2⟩:=hh
  refine Does.val hS (u:=.agg cur) ?_ (.agg _ _ h2.1 h2.2.1 h2.2.2)
  unfold execOp
  simp only[ho,Sem.run_bind]
  rw[run_build w t _ cur h1]
  rfl
 rw[qed]
 unfold Program.built
 rcases hd with⟨fs,hu,hp,ha⟩ | ⟨n,el,ie,hu,hie,hp⟩
 ·obtain⟨places,hpl⟩:=qhY (P:=P) (fs:=fs.toList) (by simpa using ha)
  obtain⟨cur',h1,h2⟩:=qjj (qiP hpl hp he hS.glb) hc hv
  exact⟨cur',by simp only[hi,hu,hz',hpl];exact h1,h2⟩
 ·obtain⟨cur',h1,h2⟩:=qjj (qgj hp he hS.glb) hc hv
  exact⟨cur',by simp only[hi,hu,hz',hie];exact h1,h2⟩
theorem qbs {n:Nat}{zs:List T}:(repl n zs).length=n*zs.length:=by simp[repl]
theorem qj3 {zs:List T}(n k:Nat)(hk:k<n*zs.length):(repl n zs).getD k .undef=zs.getD (k % zs.length) .undef:=by
 have h0:0<zs.length:=by
  rcases Nat.eq_zero_or_pos zs.length with h | h
  ·rw[h] at hk;simp at hk
  ·exact h
 induction n generalizing k with
 | zero=>simp at hk
 | succ n ih=>
  have e:repl (n+1) zs=zs++repl n zs:=by simp[repl,List.replicate_succ]
  rw[e]
  simp only[List.getD_eq_getElem?_getD] at ih ⊢
  by_cases hz:k<zs.length
  ·rw[List.getElem?_append_left hz,Nat.mod_eq_of_lt hz]
  ·rw[List.getElem?_append_right (by omega),ih (k - zs.length) (by rw[Nat.add_mul] at hk;omega)]
   congr 2
   exact (Nat.mod_eq_sub_mod (by omega)).symm
theorem qeN {z:Array Value}{zs:List T}(h:qe7 w A μ H z zs)(n:Nat):qe7 w A μ H ((Array.range (n*zs.length)).map (z[· % z.size]!)) (repl n zs):=by
 obtain⟨h1,h2,h3⟩:=h
 refine⟨by simp[qbs],fun c hc=>?_,fun k hk=>?_⟩
 ·unfold repl at hc
  obtain⟨l,hl,hc⟩:=List.mem_flatten.1 hc
  rw[List.eq_of_mem_replicate hl] at hc
  exact h2 c hc
 ·rw[qbs] at hk
  rw[qj3 n k hk]
  have h0:0<zs.length:=by
   rcases Nat.eq_zero_or_pos zs.length with h | h
   ·rw[h] at hk;simp at hk
   ·exact h
  have hm:k % zs.length<zs.length:=Nat.mod_lt _ h0
  have e:((Array.range (n*zs.length)).map (z[· % z.size]!)).getD k Go.undef=z.getD (k % zs.length) Go.undef:=by
   have hz:k % z.size<z.size:=by rw[h1];exact hm
   simp[hk,h1,hm,getElem!_pos]
  rw[e]
  exact h3 _ hm
theorem qnr {fresh:Nat}{t el e n:Nat}{ie:TypeInfo}{zs cs:List T}{ps:Array (Nat×Operand)}{l:List (Nat×Nat×Opd)}(ho:o.op=.buildSlice t n ps)(hu:P.underlying t=some (.slice el))(hie:P.info? el=some ie)(hs:ie.size=esz e)(hz:zer P el=some zs)(hzl:zs.length=esz e)
 (hp:qfc ie.size ps.toList=some l) (h24:n*esz e≤2 ^ 24) (h0:0<n) (he:EnvR w A μ H a env) (hS:Sim w A μ H) (hf:H fresh=.free) (hv:qcP env l (repl n zs)=some cs) :
 Does P o a w A μ H (.sl fresh cs.length e 0 n) (H.set fresh (.live ⟨el,cs⟩)):=by
 obtain⟨i,z,hi,hz',hc⟩:=qgx (w:=w) (A:=A) (μ:=μ) (H:=H) hz
 rw[hie] at hi
 injection hi with hi
 subst hi
 have hpos:0<esz e:=by unfold esz;split<;>omega
 have hne:¬n*ie.size=0:=by
  rw[hs];intro h;rcases Nat.mul_eq_zero.1 h with h | h<;>omega
 have hinit:qe7 w A μ H ((Array.range (n*ie.size)).map (z.cells[· % z.cells.size]!)) (repl n zs):=by
  have:=qeN hc n
  rw[hzl,←hs] at this
  exact this
 obtain⟨cur,h1,h2⟩:=qjj (qgj hp he hS.glb) hinit hv
 have hsz:cur.size=n*esz e:=by
  have q1:∀(l:List (Nat×Nat×Opd)) (cs cs':List T),qcP env l cs=some cs'→cs'.length=cs.length:=fun l=>by
   induction l with
   | nil=>intro cs cs' h;simp only[qcP,Option.some.injEq] at h;rw[h]
   | cons x r ih=>
    intro cs cs' h
    obtain⟨off,k,y⟩:=x
    simp only[qcP] at h
    split at h
    ·rename_i hc
     rw[ih _ _ h,qaZ (by omega)]
    ·cases h
  rw[h2.1,q1 _ _ _ hv,qbs,hzl]
 refine qfD (cur:=cur) hS hf h2.full.1 h2.full.2 (u:=.slice (some ⟨w.heap.size,0,none⟩) n n) ?_ ?_
 ·unfold execOp
  have hb:P.builtSlice el n (ps.map fun (i,x)=>(i,a.eval x)).toList=some cur:=by
   unfold Program.builtSlice
   rw[qed]
   simp only[hie,hz']
   rw[if_neg (by rw[hs] at hne ⊢;omega)]
   exact h1
  simp only[ho]
  unfold Program.builtSlice at hb
  simp only[hie,hz'] at hb
  rw[if_neg (by rw[hs] at hne ⊢;omega)] at hb
  have h24':¬(n*ie.size > 2 ^ 24):=by rw[hs];omega
  simp only[Instr.buildSlice,Sem.run_bind,run_underlying hu,Result.andThen_ok,sizeOf,typeInfo,run_program,hie,Sem.run_pure,h24',if_false,hne,zeroValue,hz',hb,newRow,run_newObj]
  rfl
 ·have hl:cs.length=n*esz e:=by rw[←h2.1,hsz]
  have hmx:n≤maxLen:=by
   have:n*1≤n*esz e:=Nat.mul_le_mul_left _ hpos
   unfold maxLen;omega
  have:=Rep.sl (w:=w.alloc (.cells cur el)) (A:=A) (μ:=setMu μ fresh w.heap.size) (H:=H.set fresh (.live ⟨el,cs⟩)) fresh cs.length e 0 n n ⟨el,cs⟩ cur (Heap.set_same _ _ _) rfl (by simp only[setMu,if_true];exact heap_alloc_new w _) (Nat.le_refl _) hmx (by omega) (by omega)
  simpa [setMu] using this
theorem qqW {fresh:Nat}{t el e:Nat}{ie:TypeInfo}{ps:Array (Nat×Operand)}{zs cs:List T}{l:List (Nat×Nat×Opd)}(ho:o.op=.buildSlice t 0 ps)(hu:P.underlying t=some (.slice el))(hie:P.info? el=some ie)(hl:qfc ie.size ps.toList=some l)(hle:l.isEmpty=true)(hv:qcP env l (repl 0 zs)=some cs)
 (he:EnvR w A μ H a env) (hS:Sim w A μ H) (hf:H fresh=.free):Does P o a w A μ H (.sl fresh cs.length e 0 0) (H.set fresh (.live ⟨el,cs⟩)):=by
 have hl0:l=[]:=by simpa using hle
 subst hl0
 have hcs:cs=[]:=by simpa [qcP,repl,eq_comm] using hv
 subst hcs
 have hps:ps.toList=[]:=by
  cases hp:ps.toList with
  | nil=>rfl
  | cons p r=>
   obtain⟨i,x⟩:=p
   rw[hp] at hl
   simp only[qfc] at hl
   split at hl<;>simp at hl
 have hps':ps=#[]:=by cases ps;simp at hps;subst hps;rfl
 subst hps'
 refine qfD (cur:=#[]) hS hf ⟨rfl,(fun k hk=>by simp at hk),(fun k hk=>by simp at hk)⟩ (Nat.zero_le _) (u:=.slice (some ⟨w.heap.size,0,none⟩) 0 0) ?_ ?_
 ·unfold execOp
  simp only[ho]
  simp[Instr.buildSlice,run_underlying hu,sizeOf,typeInfo,run_program,hie,newRow,Instr.fill]
  rw[show Array.range 0=#[] from Array.eq_empty_of_size_eq_zero (by simp),Array.map_empty]
 ·have:=Rep.sl (w:=w.alloc (.cells #[] el)) (A:=A) (μ:=setMu μ fresh w.heap.size) (H:=H.set fresh (.live ⟨el,[]⟩)) fresh 0 e 0 0 0 ⟨el,[]⟩ #[] (Heap.set_same _ _ _) rfl (by simp only[setMu,if_true];exact heap_alloc_new w _) (Nat.le_refl _) (Nat.zero_le _) (by simp) (by simp)
  simpa [setMu] using this
theorem quK {fresh:Nat}{t el e:Nat}{ie:TypeInfo}{zs:List T}{x y:Operand}{x' y':Opd}{k j:IntKind}{n m:Int}(ho:o.op=.makeSlice t x y)(hu:P.underlying t=some (.slice el))(hie:P.info? el=some ie)(hs:ie.size=esz e)(hby:ie.bytes≤100000)(hz:zer P el=some zs)(hzl:zs.length=esz e)
 (hx:opd x=some x') (hy:opd y=some y') (he:EnvR w A μ H a env) (hS:Sim w A μ H) (hf:H fresh=.free) (hn:x'.ev env=.int k n) (hm:y'.ev env=.int j m) (h0:0≤n) (h1:n≤m) (h2:m≤1000000000) :
 Does P o a w A μ H (.sl fresh (repl n.toNat zs).length e 0 n.toNat) (H.set fresh (.live ⟨el,repl n.toNat zs⟩)):=by
 obtain⟨i,z,hi,hz',hc⟩:=qgx (w:=w) (A:=A) (μ:=μ) (H:=H) hz
 rw[hie] at hi
 injection hi with hi
 subst hi
 have r1:=qas hx he hS.glb
 rw[hn] at r1
 have r2:=qas hy he hS.glb
 rw[hm] at r2
 have hb:(ie.bytes:Int)*m≤281474976710656:=by
  have:=Int.mul_le_mul (show (ie.bytes:Int)≤100000 by omega) h2 (by omega) (by omega)
  omega
 have hr:=run_make (P:=P) w t el ie z hu hie hz' k j n m h0 h1 hb (by omega)
 have hc0:=hc
 have hcm:qe7 w A μ H (madeCells z.cells (m.toNat*ie.size)) (repl m.toNat zs):=by
  have:=qeN hc m.toNat
  rw[hzl,←hs] at this
  exact this
 have hle:n.toNat*zs.length≤m.toNat*zs.length:=Nat.mul_le_mul_right _ (by omega)
 refine qfD (cur:=madeCells z.cells (m.toNat*ie.size)) hS hf ?_ ?_ (u:=.slice (some ⟨w.heap.size,0,none⟩) n.toNat m.toNat) ?_ ?_
 ·obtain⟨c1,c2,c3⟩:=hcm
  refine⟨by rw[Array.size_extract,c1,qbs,qbs];omega,fun c hc=>?_,fun q hq=>?_⟩
  ·unfold repl at hc
   obtain⟨l,hl,hc⟩:=List.mem_flatten.1 hc
   rw[List.eq_of_mem_replicate hl] at hc
   exact hc0.2.1 c hc
  ·rw[qbs] at hq
   have:=c3 q (by rw[qbs];omega)
   rw[qj3 _ _ (by omega)] at this
   rw[qj3 _ _ hq]
   rw[qpc _ _ _ (by rw[qbs];exact hq)]
   exact this
 ·rw[hcm.1,qbs,qbs];exact hle
 ·unfold execOp
  simp only[ho,r1.int_inv,r2.int_inv,Sem.run_bind,hr]
  rfl
 ·have hmx:m.toNat≤maxLen:=by unfold maxLen;omega
  have:=Rep.sl (w:=w.alloc (.cells (madeCells z.cells (m.toNat*ie.size)) el)) (A:=A) (μ:=setMu μ fresh w.heap.size) (H:=H.set fresh (.live ⟨el,repl n.toNat zs⟩)) fresh (repl n.toNat zs).length e 0 n.toNat m.toNat ⟨el,repl n.toNat zs⟩ _ (Heap.set_same _ _ _) rfl (by simp only[setMu,if_true];exact heap_alloc_new w _) (by omega) hmx (by rw[size_madeCells,hs];omega) (by rw[qbs,hzl];omega)
  simpa [setMu] using this
end
section
variable {P:Program} {o:Oper} {a:Act} {w w':World} {A:Sta} {μ:Nat→Nat} {H H':Heap} {env:Nat→T} {v:T}
theorem qqY {t:TypeId}{x y:Operand}{x' y':Opd}{e id tot off:Nat}{b:Blk}(ho:o.op=.store t x y)(hl:lay P t=some e)(hx:opd x=some x')(hy:opd y=some y')(he:EnvR w A μ H a env)(hS:Sim w A μ H)
 (hv:x'.ev env=.ref id tot off) (hok:okc (y'.ev env)=true) (hn:(y'.ev env).cells.length=esz e) (hb:H id=.live b) (ht:b.cs.length=tot) (hf:off+(y'.ev env).cells.length≤tot) :
 Does P o a w A μ H (.tup []) (H.set id (.live ⟨b.ty,splice b.cs off (y'.ev env).cells⟩)):=by
 have h:=qas hx he hS.glb
 rw[hv] at h
 obtain⟨c1,c2,c3⟩:=qhi (qas hy he hS.glb) hok
 obtain⟨i,hi,hs,ha,hpos⟩:=qci (w:=w) hl
 generalize hvx:a.eval x=vx at h
 generalize hvy:a.eval y=vy at*
 generalize y'.ev env=ty at*
 cases h with
 | refS p _ _ _ hs=>
  rcases hs with hd | ⟨b',hb',hl'⟩
  ·rw[hb] at hd;cases hd
  ·rw[hb] at hb';injection hb' with hb';subst hb';omega
 | ref _ _ _ b0 hb0 ht0=>
  obtain⟨cur,h1,h2,h3,h4⟩:=hS.blk id b hb
  have hone:∀u∈vy.cells.toList,u.oneCell'=true:=fun u hu=>by
   obtain⟨k,hk,rfl⟩:=List.getElem_of_mem hu
   have hk':k<ty.cells.length:=by simpa [c1] using hk
   have r:=c3 k hk'
   have e1:vy.cells.getD k Go.undef=vy.cells.toList[k]:=by
    have:k<vy.cells.size:=by simpa using hk
    simp[this]
   rw[e1] at r
   refine r.one (c2 _ ?_)
   rw[List.getD_eq_getElem?_getD,List.getElem?_eq_getElem hk']
   exact List.getElem_mem hk'
  have hrun:=run_storeCells_at P (μ id) off b.ty vy.cells.toList 0 cur w h1 (by simp only[Array.length_toList,c1];omega) hone
  have hnew:=setRow_heap w (μ id) cur (cur.toList.take (off+0)++vy.cells.toList++cur.toList.drop (off+0+vy.cells.toList.length)).toArray b.ty _ h1
  have hown:(H id).owns=true:=by simp[hb,Slot.owns]
  have hsz:(cur.toList.take (off+0)++vy.cells.toList++cur.toList.drop (off+0+vy.cells.toList.length)).toArray.size=cur.size:=by
   simp only[List.size_toArray,List.length_append,List.length_take,List.length_drop,Array.length_toList,c1]
   omega
  obtain⟨hT,hS'⟩:=qft (w':=w.setRow (μ id) (cur.toList.take (off+0)++vy.cells.toList++cur.toList.drop (off+0+vy.cells.toList.length)).toArray) (id:=id) (g:=μ id) (ty:=b.ty) (cs:=splice b.cs off ty.cells) hS rfl ⟨rfl,Nat.le_refl _⟩ rfl (by simp) (fun k hk hne=>setRow_other w _ k _ (hne hown)) hnew (.inr ⟨hown,rfl⟩)
   (.inr ⟨b,hb,.inr ⟨qaZ (by omega),rfl,rfl,fun c0 h0=>by rw[h1] at h0;injection h0 with h0;injection h0 with h0;rw[hsz,h0]⟩⟩) (by rw[qaZ (by omega),hsz];exact h2) (qd7 h3 c2) (fun k hk=>by
    rw[qaZ (by omega)] at hk
    rw[qe5 (by omega) hk]
    have hkc:k<cur.size:=by omega
    simp only[Array.getD_eq_getD_getElem?,List.getElem?_toArray,Nat.add_zero]
    by_cases q1:k<off
    ·rw[if_neg (by omega),List.append_assoc,List.getElem?_append_left (by simp;omega),List.getElem?_take,if_pos q1]
     have:=h4 k hk
     simpa using this
    ·by_cases q2:k<off+ty.cells.length
     ·rw[if_pos (by omega),List.append_assoc,List.getElem?_append_right (by simp;omega),List.getElem?_append_left (by simp;omega)]
      have e1:k - (cur.toList.take off).length=k - off:=by simp;omega
      rw[e1]
      have:=c3 (k - off) (by omega)
      simpa using this
     ·rw[if_neg (by omega),List.getElem?_append_right (by simp;omega),List.getElem?_drop]
      have e1:off+vy.cells.toList.length+(k - (cur.toList.take off++vy.cells.toList).length)=k:=by simp;omega
      rw[e1]
      have:=h4 k hk
      simpa using this)
  generalize w.setRow (μ id) (cur.toList.take (off+0)++vy.cells.toList++cur.toList.drop (off+0+vy.cells.toList.length)).toArray=W at hrun hT hS'
  refine⟨.skip,Go.undef,W,_,?_,.inr ⟨rfl,rfl⟩,.tup #[] [] rfl (fun i hi=>by cases hi),hS',hT⟩
  unfold execOp
  simp only[ho,hvx,hvy]
  have hne:¬(vy.cells.size≠i.size):=by rw[hs];simp;omega
  simp[Instr.storeAt,Instr.sureAddr,storeVar,sizeOf,typeInfo,hi,hs,c1,hn]
  rw[hrun]
  rfl
structure News (w:World) (A:Sta) (μ:Nat→Nat) (H:Heap) (u:Value) (m size:Nat) (cs:List T) (news:List Value) (ad:Addr) (c:Nat):Prop where
 val:u=.slice (some ad) m c
 len:news.length=m*size
 clen:cs.length=m*size
 cell:∀j v,news[j]? = some v→w.cell? (ad.add j)=some v
 ones:Ones cs
 rep:∀k,k<cs.length→Rep w A μ H (news.getD k Go.undef) (cs.getD k .undef)
theorem Rep.ones_cell {xs:List Value}{cs:List T}(hl:xs.length=cs.length)(h1:Ones cs)(hR:∀k,k<cs.length→Rep w A μ H (xs.getD k Go.undef) (cs.getD k .undef)):∀u∈xs,u.oneCell'=true:=fun u hu=>by
 obtain⟨k,hk,rfl⟩:=List.getElem_of_mem hu
 have r:=hR k (by omega)
 rw[List.getD_eq_getElem?_getD,List.getElem?_eq_getElem hk] at r
 refine r.one (h1 _ ?_)
 rw[List.getD_eq_getElem?_getD,List.getElem?_eq_getElem (by omega)]
 exact List.getElem_mem _
theorem qkd {P:Program}(w:World)(base:Nat)(t ty e:TypeId)(i:TypeInfo)(z:Value)(size bytes:Nat)(ht:P.underlying t=some (.slice e))(hi:P.info? e=some i)(hz:i.zero=some z)
 (hsize:i.size=size) (hby:i.bytes=bytes) (hzs:z.cells.size=size) (hsz:0<size)
 (v:Value) (n:Nat) (xs:List Value) (hown:w.ownsRow base e size v n xs)
 (a:Addr) (m c:Nat) (news:List Value) (hl:news.length=m*size) (hnews:∀j u,news[j]? = some u→w.cell? (a.add j)=some u) (h1:∀u∈news,u.oneCell'=true)
 (h63:n+m≤maxLen) (hbytes:(n+m)*bytes≤140737488355328) (hbase:base≤w.heap.size) (v':Value) (w':World)
 (hv:(Builtin.append_ #[t,t] ty #[v,.slice (some a) m c]).run P w=.ok v' w'):w.drawn≤w'.drawn:=by
 subst hsize
 subst hby
 have hsmall:n+m≤9223372036854775807:=by simp only[maxLen] at h63;omega
 rcases hown.2 with⟨rfl,rfl⟩ | ⟨g,cap,cur,rfl,hbg,hg,hnc,hcm,hcs,htake⟩
 ·by_cases hm:m=0
  ·subst hm
   have hn:news=[]:=List.eq_nil_of_length_eq_zero (by simpa using hl)
   subst hn
   have hr:(Builtin.append_ #[t,t] ty #[.slice none 0 0,.slice (some a) 0 c]).run P w=.ok (.slice none 0 0) w:=by
    simp[Builtin.append_,run_underlying ht,sizeOf,typeInfo,hi,Builtin.lenOf,Builtin.firstCells,loadCells,loadCellsFrom]
   have e1:=hr.symm.trans hv
   injection e1 with _ e1
   rw[←e1];exact Nat.le_refl _
  ·have hr:=run_append_nil (P:=P) w t ty e i z ht hi hz a m c news hl hnews (by omega) (by omega) (by have hb:=hbytes;simp only[Nat.zero_add] at hb;omega)
   have e1:=hr.symm.trans hv
   injection e1 with _ e1
   rw[←e1];exact Nat.le_succ _
 ·by_cases hroom:n+m≤cap
  ·have hfit:n*i.size+news.length≤cur.size:=by rw[hl,hcs,←Nat.add_mul];exact Nat.mul_le_mul_right _ hroom
   have hr:=run_append_room (P:=P) w t ty e i ht hi g n cap cur hg a m c news hl hnews h1 hroom hfit
   have e1:=hr.symm.trans hv
   injection e1 with _ e1
   rw[←e1];exact Nat.le_refl _
  ·have holds:∀j u,xs[j]? = some u→w.cell? ((⟨g,0,none⟩:Addr).add j)=some u:=hown.cells (g:=g) rfl
   have hr:=run_append_grow (P:=P) w t ty e i z ht hi hz ⟨g,0,none⟩ n cap xs hown.1 holds a m c news hl hnews (by omega) (by omega) (growslice_fits (by omega) hbytes)
   have e1:=hr.symm.trans hv
   injection e1 with _ e1
   rw[←e1];exact Nat.le_succ _
theorem qgP {t el e id n m:Nat}{ie:TypeInfo}{z:Value}{x y:Operand}{xs:List Value}{cs0 cs:List T}{news:List Value}{ad:Addr}{c:Nat}(ho:o.op=.call { callee:=.builtin .append,args:=#[x,y],argTypes:=#[t,t] })
 (hu:P.underlying t=some (.slice el)) (hie:P.info? el=some ie) (hz:ie.zero=some z) (hs:ie.size=esz e) (hzs:z.cells.size=ie.size) (hby:ie.bytes≤100000) (hS:Sim w A μ H)
 (hown:w.ownsRow 0 el (esz e) (a.eval x) n xs) (hx0:xs.length=cs0.length) (h10:Ones cs0) (hR0:∀k,k<cs0.length→Rep w A μ H (xs.getD k Go.undef) (cs0.getD k .undef))
 (hcase:H id=.free∧(a.eval x).ownBlock=none∨H id=.live ⟨el,cs0⟩∧(a.eval x).ownBlock=some (μ id))
 (hN:News w A μ H (a.eval y) m (esz e) cs news ad c) (hm:0<m) (hnm:n+m≤1000000000) :
 Does P o a w A μ H (.sl id (cs0.length+cs.length) e 0 (n+m)) (H.set id (.live ⟨el,cs0++cs⟩)):=by
 have hpos:0<esz e:=by unfold esz;split<;>omega
 have hbytes:(n+m)*ie.bytes≤140737488355328:=by
  have:=Nat.mul_le_mul hnm hby
  omega
 obtain⟨v',w',hr,ow,gr,_,hat⟩:=run_append_own_at (P:=P) w 0 t o.type el ie z (esz e) ie.bytes hu hie hz hs rfl (hzs.trans hs) hpos (a.eval x) n xs hown ad m c news hN.len hN.cell (Rep.ones_cell (hN.len.trans hN.clen.symm) hN.ones hN.rep) (by unfold maxLen;omega) hbytes (Nat.zero_le _)
 have hdr:=qkd (P:=P) w 0 t o.type el ie z (esz e) ie.bytes hu hie hz hs rfl (hzs.trans hs) hpos (a.eval x) n xs hown ad m c news hN.len hN.cell (Rep.ones_cell (hN.len.trans hN.clen.symm) hN.ones hN.rep) (by unfold maxLen;omega) hbytes (Nat.zero_le _) v' w' hr
 obtain⟨l1,l2⟩:=ow
 rcases l2 with⟨_,h0⟩ | ⟨g,cap,cur,rfl,_,hg,hcap,hmx,hcs,htk⟩
 ·omega
 have hmp:0<m*esz e:=Nat.mul_pos hm hpos
 have hlen:cs0.length+cs.length=(n+m)*esz e:=by
  rw[←hx0,hN.clen,←hN.len,←List.length_append,l1]
 have hle:(n+m)*esz e≤cap*esz e:=Nat.mul_le_mul_right _ hcap
 have hget:∀k,k<cs0.length+cs.length→cur.getD k Go.undef=(xs++news).getD k Go.undef:=fun k hk=>by
  rw[←htk,List.getD_eq_getElem?_getD,List.getElem?_take,if_pos (by omega)]
  simp
 have hgo:w.heap.size≤g∨((H id).owns=true∧g=μ id):=by
  rcases hat with h | h
  ·rcases hcase with⟨hf,hn⟩ | ⟨hf,hn⟩
   ·rw[hn] at h;simp[Value.ownBlock] at h
   ·rw[hn] at h
    simp only[Value.ownBlock,Option.some.injEq] at h
    exact .inr ⟨by simp[hf,Slot.owns],h⟩
  ·simp only[Value.ownBlock,Option.some.injEq] at h
   exact .inl (by omega)
 obtain⟨hT,hS'⟩:=qft (w':=w') (id:=id) (g:=g) (ty:=el) (cs:=cs0++cs) (cur:=cur) hS gr.os ⟨gr.tape,hdr⟩ gr.output gr.size (fun k hk hne=>gr.block k hk (fun he=>by
  rcases hcase with⟨hf,hn⟩ | ⟨hf,hn⟩
  ·rw[hn] at he;cases he
  ·rw[hn] at he;injection he with he;exact hne (by simp[hf,Slot.owns]) he)) hg hgo
  (by
   rcases hcase with⟨hf,hn⟩ | ⟨hf,hn⟩
   ·exact .inl hf
   ·exact .inr ⟨_,hf,.inl (by have:=hN.clen;simp only[List.length_append];omega)⟩)
  (by rw[List.length_append,hcs];omega) (fun q hq=>(List.mem_append.1 hq).elim (h10 q) (hN.ones q)) (fun k hk=>by
   rw[List.length_append] at hk
   rw[hget k hk]
   by_cases hk0:k<cs0.length
   ·have e1:(xs++news).getD k Go.undef=xs.getD k Go.undef:=by
     simp only[List.getD_eq_getElem?_getD];rw[List.getElem?_append_left (by omega)]
    have e2:(cs0++cs).getD k .undef=cs0.getD k .undef:=by
     simp only[List.getD_eq_getElem?_getD];rw[List.getElem?_append_left (by omega)]
    rw[e1,e2];exact hR0 k hk0
   ·have e1:(xs++news).getD k Go.undef=news.getD (k - cs0.length) Go.undef:=by
     simp only[List.getD_eq_getElem?_getD];rw[List.getElem?_append_right (by omega),hx0]
    have e2:(cs0++cs).getD k .undef=cs.getD (k - cs0.length) .undef:=by
     simp only[List.getD_eq_getElem?_getD];rw[List.getElem?_append_right (by omega)]
    rw[e1,e2];exact hN.rep _ (by omega))
 refine⟨_,.slice (some ⟨g,0,none⟩) (n+m) cap,w',_,?_,.inl rfl,?_,hS',hT⟩
 ·unfold execOp
  simp only[ho] at hr ⊢
  simp[resolve,invoke,builtin,hN.val,hr]
 ·have:=Rep.sl (w:=w') (A:=A) (μ:=setMu μ id g) (H:=H.set id (.live ⟨el,cs0++cs⟩)) id (cs0.length+cs.length) e 0 (n+m) cap ⟨el,cs0++cs⟩ cur (Heap.set_same _ _ _) (by simp) (by simp only[setMu,if_true];exact hg) hcap hmx (by omega) (by omega)
  simpa [setMu] using this
theorem qdS {t el:Nat}{ie:TypeInfo}{x y:Operand}{p:Option Addr}{n c:Nat}{q:Option Addr}{c':Nat}(ho:o.op=.call { callee:=.builtin .append,args:=#[x,y],argTypes:=#[t,t] })
 (hu:P.underlying t=some (.slice el)) (hie:P.info? el=some ie) (hx:a.eval x=.slice p n c) (hnc:n≤c) (hy:a.eval y=.slice q 0 c'):(execOp a.eval o).run P w=.ok (.value (.slice p n c)) w:=by
 unfold execOp
 simp only[ho]
 cases p<;>cases q<;>simp[resolve,invoke,builtin,hx,hy,Builtin.append_,run_underlying hu,sizeOf,typeInfo,hie,Builtin.lenOf,hnc,Builtin.firstCells,loadCells,loadCellsFrom,storeCells]
theorem qhS {e:Nat}{ys:List T}{u:Value}(h:Rep w A μ H u (.list ys))(hsz:sizedB e ys=true)(hne:ys≠[]):∃news ad c,News w A μ H u ys.length (esz e) (flat ys) news ad c:=by
 cases h with
 | lnil=>exact absurd rfl hne
 | list ad c k _ U hk hc h1 hA hU hR=>
  have hke:k=esz e:=by
   cases ys with
   | nil=>exact absurd rfl hne
   | cons y r=>
    have a1:=hk y (List.mem_cons_self ..)
    have a2:=(List.all_eq_true.1 hsz) y (List.mem_cons_self ..)
    simp at a2
    omega
  subst hke
  have hfl:=qcE hk
  refine⟨(List.range (flat ys).length).map U,ad,c,rfl,by simp[hfl],hfl,fun j v hj=>?_,h1,fun q hq=>?_⟩
  ·have hjl:j<(flat ys).length:=by
    rcases Nat.lt_or_ge j (flat ys).length with h | h
    ·exact h
    ·rw[List.getElem?_eq_none (by simpa using h)] at hj;cases hj
   rw[hU j hjl]
   simp[hjl] at hj
   rw[hj]
  ·have e1:((List.range (flat ys).length).map U).getD q Go.undef=U q:=by simp[List.getD_eq_getElem?_getD,hq]
   rw[e1];exact hR q hq
theorem qg1 {e id tot off m:Nat}{b:Blk}{u:Value}(hS:Sim w A μ H)(h:Rep w A μ H u (.sl id tot e off m))(hb:H id=.live b)(ht:b.cs.length=tot)(hf:off+m*esz e≤tot) :
 ∃news ad c,News w A μ H u m (esz e) ((b.cs.drop off).take (m*esz e)) news ad c:=by
 cases h with
 | slS p c _ _ _ _ _ hn hs=>
  rcases hs with hd | ⟨b',hb',hl'⟩
  ·rw[hb] at hd;cases hd
  ·rw[hb] at hb';injection hb' with hb';subst hb';omega
 | sl _ _ _ _ _ c b0 cur hb0 ht0 hcur hnc hmx hcc hff=>
  rw[hb] at hb0
  injection hb0 with hb0
  subst hb0
  obtain⟨cur',h1,h2,h3,h4⟩:=hS.blk id b hb
  rw[hcur] at h1
  injection h1 with h1
  injection h1 with h1
  subst h1
  refine⟨(List.range (m*esz e)).map fun q=>cur.getD (off+q) Go.undef,_,c,rfl,by simp,by simp;omega,fun j v hj=>?_,fun x hx=>h3 x (List.mem_of_mem_drop (List.mem_of_mem_take hx)),fun q hq=>?_⟩
  ·have hjl:j<m*esz e:=by
    rcases Nat.lt_or_ge j (m*esz e) with h | h
    ·exact h
    ·rw[List.getElem?_eq_none (by simpa using h)] at hj;cases hj
   rw[qdd]
   have hlt:off+j<cur.size:=by omega
   simp[hjl] at hj
   simp[World.cell?,hcur,hlt]
   simpa [hlt] using hj
  ·have hq':q<m*esz e:=by simp at hq;omega
   have e1:((List.range (m*esz e)).map fun q=>cur.getD (off+q) Go.undef).getD q Go.undef=cur.getD (off+q) Go.undef:=by simp[List.getD_eq_getElem?_getD,hq']
   have e2:((b.cs.drop off).take (m*esz e)).getD q .undef=b.cs.getD (off+q) .undef:=by
    simp[List.getD_eq_getElem?_getD,hq']
   rw[e1,e2];exact h4 _ (by omega)
theorem qtJ {t el e fresh m:Nat}{ie:TypeInfo}{z:Value}{x y:Operand}{cs:List T}{news:List Value}{ad:Addr}{c:Nat}{p:Option Addr}(ho:o.op=.call { callee:=.builtin .append,args:=#[x,y],argTypes:=#[t,t] })
 (hu:P.underlying t=some (.slice el)) (hie:P.info? el=some ie) (hz:ie.zero=some z) (hs:ie.size=esz e) (hzs:z.cells.size=ie.size) (hby:ie.bytes≤100000) (hS:Sim w A μ H) (hx:a.eval x=.slice p 0 0) (hf:H fresh=.free)
 (hN:News w A μ H (a.eval y) m (esz e) cs news ad c) (hm:0<m) (hnm:m≤1000000000):Does P o a w A μ H (.sl fresh cs.length e 0 m) (H.set fresh (.live ⟨el,cs⟩)):=by
 have hpos:0<esz e:=by unfold esz;split<;>omega
 have hb:m*ie.bytes≤100000000000000:=Nat.mul_le_mul hnm hby
 have hrun:(Builtin.append_ #[t,t] o.type #[.slice p 0 0,.slice (some ad) m c]).run P w=.ok (.slice (some ⟨w.heap.size,0,none⟩) m (grownCap w m 0 el)) (w.drew.alloc (.cells (news.toArray++Builtin.zeroCells z.cells (grownCap w m 0 el - m)) el)):=by
  cases p with
  | none=>exact run_append_nil (P:=P) w t o.type el ie z hu hie hz ad m c news (by rw[hN.len,hs]) hN.cell hm (by omega) (by omega)
  | some q=>
   have:=run_append_grow (P:=P) w t o.type el ie z hu hie hz q 0 0 [] (by simp) (fun j v hj=>by simp at hj) ad m c news (by rw[hN.len,hs]) hN.cell (by omega) (by omega) (growslice_fits (by omega) (by rw[Nat.zero_add];omega))
   simpa using this
 have hcap:=grownCap_ge w m 0 el
 have hcm:grownCap w m 0 el≤maxLen:=grownCap_le_maxLen w m 0 el (by unfold maxLen;omega)
 have hsz:(news.toArray++Builtin.zeroCells z.cells (grownCap w m 0 el - m)).size=grownCap w m 0 el*esz e:=by
  simp only[Array.size_append,List.size_toArray,size_zeroCells,hzs,hN.len,hs,←Nat.add_mul]
  congr 1
  omega
 have hle:m*esz e≤grownCap w m 0 el*esz e:=Nat.mul_le_mul_right _ hcap
 have hg:(w.drew.alloc (.cells (news.toArray++Builtin.zeroCells z.cells (grownCap w m 0 el - m)) el)).heap[w.heap.size]? = some (.cells (news.toArray++Builtin.zeroCells z.cells (grownCap w m 0 el - m)) el):=heap_alloc_new w.drew _
 obtain⟨hT,hS'⟩:=qft (w':=w.drew.alloc (.cells (news.toArray++Builtin.zeroCells z.cells (grownCap w m 0 el - m)) el)) (id:=fresh) (g:=w.heap.size) (ty:=el) (cs:=cs) hS rfl ⟨rfl,Nat.le_succ _⟩ rfl (by simp) (fun b hb _=>heap_alloc_old w.drew _ hb) hg (.inl (Nat.le_refl _)) (.inl hf) (by rw[hsz,hN.clen];exact hle) hN.ones (fun k hk=>by
  have e1:(news.toArray++Builtin.zeroCells z.cells (grownCap w m 0 el - m)).getD k Go.undef=news.getD k Go.undef:=by
   have hk':k<news.length:=by rw[hN.len,←hN.clen];exact hk
   simp only[Array.getD_eq_getD_getElem?,List.getD_eq_getElem?_getD]
   rw[Array.getElem?_append_left (by simpa using hk')]
   simp
  rw[e1];exact hN.rep k hk)
 refine⟨_,.slice (some ⟨w.heap.size,0,none⟩) m (grownCap w m 0 el),_,_,?_,.inl rfl,?_,hS',hT⟩
 ·unfold execOp
  simp only[ho] at hrun ⊢
  simp[resolve,invoke,builtin,hN.val,hx,hrun]
 ·have:=Rep.sl (w:=w.drew.alloc (.cells (news.toArray++Builtin.zeroCells z.cells (grownCap w m 0 el - m)) el)) (A:=A) (μ:=setMu μ fresh w.heap.size) (H:=H.set fresh (.live ⟨el,cs⟩)) fresh cs.length e 0 m (grownCap w m 0 el) ⟨el,cs⟩ _ (Heap.set_same _ _ _) rfl (by simp only[setMu,if_true];exact hg) hcap hcm (by rw[hsz];omega) (by rw[hN.clen];omega)
  simpa [setMu] using this
theorem qp1 {e id tot n:Nat}{b:Blk}{u:Value}{el:Nat}(hS:Sim w A μ H)(h:Rep w A μ H u (.sl id tot e 0 n))(hb:H id=.live b)(hty:b.ty=el)(ht:b.cs.length=tot)(hn:tot=n*esz e) :
 ∃xs,w.ownsRow 0 el (esz e) u n xs∧xs.length=b.cs.length∧Ones b.cs∧(∀k,k<b.cs.length→Rep w A μ H (xs.getD k Go.undef) (b.cs.getD k .undef))∧u.ownBlock=some (μ id):=by
 cases h with
 | slS p c _ _ _ _ _ hn hs=>
  rcases hs with hd | ⟨b',hb',hl'⟩
  ·rw[hb] at hd;cases hd
  ·rw[hb] at hb';injection hb' with hb';subst hb';omega
 | sl _ _ _ _ _ c b0 cur hb0 ht0 hcur hnc hmx hcc hff=>
  rw[hb] at hb0
  injection hb0 with hb0
  subst hb0
  obtain⟨cur',h1,h2,h3,h4⟩:=hS.blk id b hb
  rw[hcur] at h1
  injection h1 with h1
  injection h1 with h1
  subst h1
  have hl:(cur.toList.take (n*esz e)).length=n*esz e:=by simp;omega
  refine⟨cur.toList.take (n*esz e),⟨hl,.inr ⟨μ id,c,cur,rfl,Nat.zero_le _,by rw[hcur,hty],hnc,hmx,by omega,rfl⟩⟩,by omega,h3,fun k hk=>?_,rfl⟩
  have e1:(cur.toList.take (n*esz e)).getD k Go.undef=cur.getD k Go.undef:=by
   rw[List.getD_eq_getElem?_getD,List.getElem?_take,if_pos (by omega)]
   simp
  rw[e1];exact h4 k hk
theorem set_self {id:Nat}{s:Slot}(h:H id=s):H.set id s=H:=by
 funext i
 by_cases e:i=id
 ·subst e;rw[Heap.set_same,h]
 ·rw[Heap.set_other _ _ e]
theorem quD {t el e fresh:Nat}{ie:TypeInfo}{z:Value}{x y:Operand}{x' y':Opd}{q:Req}{F:List Nat}{U:List (Nat×Slot)}(ho:o.op=.call { callee:=.builtin .append,args:=#[x,y],argTypes:=#[t,t] })
 (hu:P.underlying t=some (.slice el)) (hie:P.info? el=some ie) (hz:ie.zero=some z) (hs:ie.size=esz e) (hzs:z.cells.size=ie.size) (hby:ie.bytes≤100000) (hx:opd x=some x') (hy:opd y=some y') (he:EnvR w A μ H a env) (hS:Sim w A μ H)
 (hq:appT el e (x'.ev env) (y'.ev env)=some q) (hv:q.run fresh H=some (v,F,U)):Does P o a w A μ H v (H.upd U):=by
 have hX:=qas hx he hS.glb
 have hY:=qas hy he hS.glb
 have hnil:∀ {u},Rep w A μ H u .nil→u=.slice none 0 0:=fun h=>by cases h;rfl
 have hno:∀ {u:Value} {id tot e' off n},Rep w A μ H u (.sl id tot e' off n)→∃p c,u=.slice p n c∧n≤c:=fun h=>by
  cases h with
  | sl=>exact⟨_,_,rfl,by assumption⟩
  | slS=>exact⟨_,_,rfl,by assumption⟩
 have hpos:0<esz e:=by unfold esz;split<;>omega
 unfold appT at hq
 split at hq
 ·rename_i h1 h2
  injection hq with hq;subst hq
  simp only[Req.run,Option.some.injEq,Prod.mk.injEq] at hv
  obtain⟨rfl,rfl,rfl⟩:=hv
  rw[h1] at hX;rw[h2] at hY
  exact Does.val hS (qdS ho hu hie (hnil hX) (Nat.le_refl _) (hnil hY)) .nil
 ·rename_i id tot e' off n h1 h2
  injection hq with hq;subst hq
  simp only[Req.run,Option.some.injEq,Prod.mk.injEq] at hv
  obtain⟨rfl,rfl,rfl⟩:=hv
  rw[h1] at hX;rw[h2] at hY
  obtain⟨p,c,hp,hc⟩:=hno hX
  rw[hp] at hX
  exact Does.val hS (qdS ho hu hie hp hc (hnil hY)) hX
 ·rename_i ys h1 h2
  rw[h1] at hX;rw[h2] at hY
  split at hq
  ·injection hq with hq;subst hq
   simp only[Req.run,Option.some.injEq,Prod.mk.injEq] at hv
   obtain⟨rfl,rfl,rfl⟩:=hv
   have:∃q c',a.eval y=.slice q 0 c':=by
    generalize a.eval y=vy at hY
    cases hY with
    | lnil=>exact⟨_,_,rfl⟩
    | list _ c=>exact⟨_,c,rfl⟩
   obtain⟨q,c',hq⟩:=this
   exact Does.val hS (qdS ho hu hie (hnil hX) (Nat.le_refl _) hq) .nil
  ·rename_i y0 r
   split at hq
   ·rename_i hc
    injection hq with hq;subst hq
    simp only[Req.run] at hv
    split at hv
    ·rename_i hf
     simp only[Bool.false_eq_true,if_false,Option.some.injEq,Prod.mk.injEq] at hv
     obtain⟨rfl,rfl,rfl⟩:=hv
     obtain⟨news,ad,c,hN⟩:=qhS hY hc.1 (by simp)
     have:=qgP (id:=fresh) (n:=0) (xs:=[]) (cs0:=[]) ho hu hie hz hs hzs hby hS (by rw[hnil hX];exact World.ownsRow_nil _ _ _ _) rfl (fun c hc=>by cases hc) (fun k hk=>by cases hk) (.inl ⟨hf,by rw[hnil hX];rfl⟩) hN (by simp) (by simpa using hc.2)
     simpa [Heap.upd] using this
    ·cases hv
   ·cases hq
 ·rename_i id tot e' off n ys h1 h2
  rw[h1] at hX;rw[h2] at hY
  split at hq
  ·injection hq with hq;subst hq
   simp only[Req.run,Option.some.injEq,Prod.mk.injEq] at hv
   obtain⟨rfl,rfl,rfl⟩:=hv
   have:∃q c',a.eval y=.slice q 0 c':=by
    generalize a.eval y=vy at hY
    cases hY with
    | lnil=>exact⟨_,_,rfl⟩
    | list _ c=>exact⟨_,c,rfl⟩
   obtain⟨q,c',hq⟩:=this
   obtain⟨p,c,hp,hc⟩:=hno hX
   rw[hp] at hX
   exact Does.val hS (qdS ho hu hie hp hc hq) hX
  ·rename_i y0 r
   split at hq
   ·rename_i hc
    obtain⟨rfl,rfl,c3,c4⟩:=hc
    injection hq with hq;subst hq
    simp only[Req.run] at hv
    split at hv
    ·rename_i b hb
     split at hv
     ·rename_i hd
      obtain⟨d1,d2,d3,d4,d5⟩:=hd
      simp only[Option.some.injEq,Prod.mk.injEq] at hv
      obtain⟨rfl,rfl,rfl⟩:=hv
      obtain⟨xs,o1,o2,o3,o4,o5⟩:=qp1 hS hX hb d1 d2 d3
      obtain⟨news,ad,c,hN⟩:=qhS hY c3 (fun h=>by simp at h)
      have hbe:b=⟨el,b.cs⟩:=by cases b;simp_all
      have:=qgP (id:=id) (xs:=xs) (cs0:=b.cs) ho hu hie hz hs hzs hby hS o1 o2 o3 o4 (.inr ⟨by rw[hb,←hbe],o5⟩) hN d5 (by omega)
      rw[d2] at this
      exact this
     ·cases hv
    ·cases hv
   ·cases hq
 ·rename_i id' tot' e' off m h1 h2
  rw[h1] at hX;rw[h2] at hY
  split at hq
  ·rename_i hc
   obtain⟨rfl,c2⟩:=hc
   injection hq with hq;subst hq
   simp only[Req.run] at hv
   split at hv
   ·rename_i b hf hb
    split at hv
    ·rename_i hd
     obtain⟨d1,d2,d3⟩:=hd
     simp only[Option.some.injEq,Prod.mk.injEq] at hv
     obtain⟨rfl,rfl,rfl⟩:=hv
     obtain⟨news,ad,c,hN⟩:=qg1 hS hY hb d1 d2
     have:=qgP (id:=fresh) (n:=0) (xs:=[]) (cs0:=[]) ho hu hie hz hs hzs hby hS (by rw[hnil hX];exact World.ownsRow_nil _ _ _ _) rfl (fun c hc=>by cases hc) (fun k hk=>by cases hk) (.inl ⟨hf,by rw[hnil hX];rfl⟩) hN d3 (by omega)
     have hl:=hN.clen
     simp only[List.length_nil,Nat.zero_add,List.nil_append,hl] at this
     exact this
    ·cases hv
   ·cases hv
  ·cases hq
 ·rename_i id tot e' off n id' tot' e'' off' m h1 h2
  rw[h1] at hX;rw[h2] at hY
  split at hq
  ·rename_i hc
   obtain⟨rfl,rfl,rfl,c4⟩:=hc
   injection hq with hq;subst hq
   simp only[Req.run] at hv
   split at hv
   ·rename_i b b' hb hb'
    split at hv
    ·rename_i hd
     obtain⟨d1,d2,d3,d4,d5,d6⟩:=hd
     simp only[Option.some.injEq,Prod.mk.injEq] at hv
     obtain⟨rfl,rfl,rfl⟩:=hv
     obtain⟨xs,o1,o2,o3,o4,o5⟩:=qp1 hS hX hb d1 d2 d3
     obtain⟨news,ad,c,hN⟩:=qg1 hS hY hb' d4 d5
     have hbe:b=⟨el,b.cs⟩:=by cases b;simp_all
     have:=qgP (id:=id) (xs:=xs) (cs0:=b.cs) ho hu hie hz hs hzs hby hS o1 o2 o3 o4 (.inr ⟨by rw[hb,←hbe],o5⟩) hN d6 (by omega)
     have hl:=hN.clen
     simp only[d2,hl] at this
     exact this
    ·cases hv
   ·cases hv
  ·cases hq
 ·rename_i h1 h2
  injection hq with hq;subst hq
  simp only[Req.run,Option.some.injEq,Prod.mk.injEq] at hv
  obtain⟨rfl,rfl,rfl⟩:=hv
  rw[h1] at hX;rw[h2] at hY
  have:∃p,a.eval x=.slice p 0 0:=by
   generalize a.eval x=vx at hX
   cases hX;exact⟨_,rfl⟩
  obtain⟨p,hp⟩:=this
  exact Does.val hS (qdS ho hu hie hp (Nat.le_refl _) (hnil hY)) (.emp p)
 ·rename_i ys h1 h2
  rw[h1] at hX;rw[h2] at hY
  have:∃p,a.eval x=.slice p 0 0:=by
   generalize a.eval x=vx at hX
   cases hX;exact⟨_,rfl⟩
  obtain⟨p,hp⟩:=this
  split at hq
  ·injection hq with hq;subst hq
   simp only[Req.run,Option.some.injEq,Prod.mk.injEq] at hv
   obtain⟨rfl,rfl,rfl⟩:=hv
   have:∃q c',a.eval y=.slice q 0 c':=by
    generalize a.eval y=vy at hY
    cases hY with
    | lnil=>exact⟨_,_,rfl⟩
    | list _ c=>exact⟨_,c,rfl⟩
   obtain⟨q,c',hq⟩:=this
   exact Does.val hS (qdS ho hu hie hp (Nat.le_refl _) hq) (.emp p)
  ·rename_i y0 r
   split at hq
   ·rename_i hc
    injection hq with hq;subst hq
    simp only[Req.run] at hv
    split at hv
    ·rename_i hf
     simp only[Bool.false_eq_true,if_false,Option.some.injEq,Prod.mk.injEq] at hv
     obtain⟨rfl,rfl,rfl⟩:=hv
     obtain⟨news,ad,c,hN⟩:=qhS hY hc.1 (by simp)
     exact qtJ ho hu hie hz hs hzs hby hS hp hf hN (by simp) hc.2
    ·cases hv
   ·cases hq
 ·cases hq
end
section
variable {P:Program} {o:Oper} {a:Act} {w w':World} {A:Sta} {μ:Nat→Nat} {H H':Heap} {env:Nat→T} {v:T}
theorem qsO {t el:TypeId}{x lo hi mx:Operand}{x' lo' hi' mx':Opd}(ho:o.op=.slice t x (some lo) (some hi) (some mx))(hu:P.underlying t=some (.slice el))(hlay:(P.info? el).isSome=true)(hx:opd x=some x')(g1:opd lo=some lo')(g2:opd hi=some hi')(g3:opd mx=some mx')(he:EnvR w A μ H a env)(hS:Sim w A μ H)
 (hq:req env (.slck x' lo' hi' mx')=some (.val .undef)):Does P o a w A μ H .undef H:=by
 have h:=qas hx he hS.glb
 have r1:=qas g1 he hS.glb
 have r2:=qas g2 he hS.glb
 have r3:=qas g3 he hS.glb
 obtain⟨sz,hsz⟩:=Option.isSome_iff_exists.1 hlay
 simp only[req] at hq
 split at hq
 ·rename_i id tot e off n k1 l k2 q k3 m e0 e1 e2 e3
  split at hq
  ·rename_i hc
   obtain⟨c1,c2,c3,c4⟩:=hc
   rw[e0] at h
   rw[e1] at r1
   rw[e2] at r2
   rw[e3] at r3
   obtain⟨l,rfl⟩:=Int.eq_ofNat_of_zero_le c1
   obtain⟨q,rfl⟩:=Int.eq_ofNat_of_zero_le (show 0≤q by omega)
   obtain⟨m,rfl⟩:=Int.eq_ofNat_of_zero_le (show 0≤m by omega)
   have hp:∃p c,a.eval x=.slice p n c∧n≤c:=by
    generalize a.eval x=vx at h
    cases h with
    | sl=>exact⟨_,_,rfl,by assumption⟩
    | slS=>exact⟨_,_,rfl,by assumption⟩
   obtain⟨p,c,hp,hnc⟩:=hp
   have hb:∀(k:IntKind) (i y:Nat) code,i≤y→(Instr.sliceBound (.int k i) y code).run P w=.ok i w:=fun k i y code hi=>by
    have:=run_sliceBound (P:=P) w k i y code (by omega) (by omega)
    simpa using this
   have b3:=hb k3 m c .slice3Acap (by omega)
   have b2:=hb k2 q m .slice3B (by omega)
   have b1:=hb k1 l q .slice3C (by omega)
   have v1:a.eval lo=.int k1 l:=r1.int_inv
   have v2:a.eval hi=.int k2 q:=r2.int_inv
   have v3:a.eval mx=.int k3 m:=r3.int_inv
   have hrun:(execOp a.eval o).run P w=.ok (.value (.slice (if m=l then p else p.map (·.add (l*sz.size))) (q - l) (m - l))) w:=by
    unfold execOp
    simp only[ho,hp,Option.map_some,v1,v2,v3]
    simp[Instr.sliceAt,run_underlying hu,Instr.slice,Instr.sliceBounds,b1,b2,b3,sizeOf,typeInfo,hsz]
   exact Does.val hS hrun (.undef _)
  ·cases hq
 ·cases hq
theorem quI {t el:TypeId}{x hi mx:Operand}{x':Opd}(ho:o.op=.slice t x none (some hi) (some mx))(hu:P.underlying t=some (.slice el))(hlay:(P.info? el).isSome=true)(hh:isZero hi=true)(hm:isZero mx=true)(hx:opd x=some x')(he:EnvR w A μ H a env)(hS:Sim w A μ H)
 (hq:req env (.emp x')=some (.val v)):Does P o a w A μ H v H:=by
 have h:=qas hx he hS.glb
 have hz:∀ {y:Operand},isZero y=true→∃k,a.eval y=.int k 0:=fun {y} hy=>by
  unfold isZero at hy
  split at hy
  ·rename_i k n
   have:n=0:=by simpa using hy
   subst this
   exact⟨k,rfl⟩
  ·cases hy
 obtain⟨k1,e1⟩:=hz hh
 obtain⟨k2,e2⟩:=hz hm
 obtain⟨sz,hsz⟩:=Option.isSome_iff_exists.1 hlay
 have hrun:∀p n c,a.eval x=.slice p n c→(execOp a.eval o).run P w=.ok (.value (.slice p 0 0)) w:=fun p n c hp=>by
  have hb:∀(k:IntKind) (y:Nat) code,(Instr.sliceBound (.int k 0) y code).run P w=.ok 0 w:=fun k y code=>by
   simp[Instr.sliceBound,asIntOf]
  cases hi:P.info? el with
  | none=>simp[hi] at hsz
  | some ie=>
   unfold execOp
   simp only[ho,hp,Option.map_some,Option.map_none,e1,e2]
   simp[Instr.sliceAt,run_underlying hu,Instr.slice,Instr.sliceBounds,hb,sizeOf,typeInfo,hi]
 simp only[req] at hq
 split at hq
 ·rename_i hr
  injection hq with hq;injection hq with hq;subst hq
  rw[hr] at h
  generalize hvx:a.eval x=vx at h
  cases h
  exact Does.val hS (hrun _ _ _ hvx) .nil
 ·rename_i hr
  injection hq with hq;injection hq with hq;subst hq
  rw[hr] at h
  generalize hvx:a.eval x=vx at h
  cases h
  exact Does.val hS (hrun _ _ _ hvx) (.emp _)
 ·rename_i hr
  injection hq with hq;injection hq with hq;subst hq
  rw[hr] at h
  generalize hvx:a.eval x=vx at h
  cases h<;>exact Does.val hS (hrun _ _ _ hvx) (.emp _)
 ·rename_i hr
  injection hq with hq;injection hq with hq;subst hq
  rw[hr] at h
  generalize hvx:a.eval x=vx at h
  cases h<;>exact Does.val hS (hrun _ _ _ hvx) (.emp _)
 ·cases hq
theorem quH {t el:TypeId}{x:Operand}{x':Opd}(ho:o.op=.call { callee:=.builtin .cap,args:=#[x],argTypes:=#[t] })(hu:P.underlying t=some (.slice el))(hx:opd x=some x')(he:EnvR w A μ H a env)(hS:Sim w A μ H)
 (hv:x'.ev env=.nil∨x'.ev env=.emp):Does P o a w A μ H (.int .i64 0) H:=by
 have h:=qas hx he hS.glb
 have:∃p,a.eval x=.slice p 0 0:=by
  generalize a.eval x=vx at h
  rcases hv with hv | hv<;>rw[hv] at h<;>cases h<;>exact⟨_,rfl⟩
 obtain⟨p,hp⟩:=this
 refine Does.val hS (u:=.int .i64 0) ?_ (.int _ _)
 unfold execOp
 simp only[ho]
 simp[resolve,invoke,builtin,hp,Builtin.cap_,run_underlying hu,goInt]
theorem qgM (z:Array Value)(n:Nat):Builtin.zeroCells z n=(Array.range (n*z.size)).map (z[· % z.size]!):=rfl
theorem qsJ {t t' el e fresh:Nat}{k':IntKind}{ie:TypeInfo}{zs:List T}{x y:Operand}{x' y':Opd}{q:Req}{F:List Nat}{U:List (Nat×Slot)}(ho:o.op=.call { callee:=.builtin .append,args:=#[x,y],argTypes:=#[t,t'] })
 (hu:P.underlying t=some (.slice el)) (hu':P.underlying t'=some (.int k')) (hie:P.info? el=some ie) (hs:ie.size=esz e) (hby:ie.bytes≤100000) (hz:zer P el=some zs) (hzl:zs.length=esz e) (hx:opd x=some x') (hy:opd y=some y') (he:EnvR w A μ H a env) (hS:Sim w A μ H)
 (hq:req env (.appz el e zs x' y')=some q) (hv:q.run fresh H=some (v,F,U)):Does P o a w A μ H v (H.upd U):=by
 have hX:=qas hx he hS.glb
 have hY:=qas hy he hS.glb
 have hpos:0<esz e:=by unfold esz;split<;>omega
 simp only[req] at hq
 split at hq
 ·rename_i j h1 h2
  rw[h1] at hX;rw[h2] at hY
  have hxv:a.eval x=.slice none 0 0:=by
   generalize a.eval x=vx at hX
   cases hX;rfl
  have hyv:=hY.int_inv
  split at hq
  ·rename_i hj
   obtain⟨hj0,hj1⟩:=hj
   have hwr:IntKind.wrap .i64 j=j:=by rw[IntKind.wrap_i64];omega
   have n0:¬j<0:=by omega
   have hb:(ie.bytes:Int)*j≤100000000000000:=by
    have:=Int.mul_le_mul (show (ie.bytes:Int)≤100000 by omega) hj1 hj0 (by omega)
    omega
   have n2:¬(281474976710656<j*(ie.bytes:Int)):=by rw[Int.mul_comm];omega
   split at hq
   ·rename_i h0
    injection hq with hq;subst hq
    simp only[Req.run,Option.some.injEq,Prod.mk.injEq] at hv
    obtain⟨rfl,rfl,rfl⟩:=hv
    subst h0
    refine Does.val hS (u:=.slice none 0 0) ?_ .nil
    unfold execOp
    simp only[ho]
    simp[resolve,invoke,builtin,hxv,hyv,Builtin.append_,run_underlying hu,run_underlying hu',sizeOf,typeInfo,hie,asInt,asIntOf,hwr]
   ·rename_i h0
    injection hq with hq;subst hq
    simp only[Req.run] at hv
    split at hv
    ·rename_i hf
     simp only[Bool.false_eq_true,if_false,Option.some.injEq,Prod.mk.injEq] at hv
     obtain⟨rfl,rfl,rfl⟩:=hv
     obtain⟨i0,z,hi,hz',hc⟩:=qgx (w:=w) (A:=A) (μ:=μ) (H:=H) hz
     rw[hie] at hi
     injection hi with hi
     subst hi
     have hjn:0<j.toNat:=by omega
     have hm:j.toNat≤1000000000:=by omega
     have hb2:j.toNat*ie.bytes≤100000000000000:=by
      have:=Nat.mul_le_mul hm hby
      omega
     have n3:¬(9223372036854775807<(j.toNat:Int)):=by omega
     have n4:¬(281474976710656<Builtin.nextslicecap j.toNat 0*ie.bytes):=by rw[nextslicecap_zero hjn];omega
     have hne:¬(j.toNat*ie.size=0):=by
      rw[hs];intro h;rcases Nat.mul_eq_zero.1 h with h | h<;>omega
     have hcap:=grownCap_ge w j.toNat 0 el
     have hcm:grownCap w j.toNat 0 el≤maxLen:=grownCap_le_maxLen w j.toNat 0 el (by unfold maxLen;omega)
     have hzsz:z.cells.size=esz e:=by rw[hc.1,hzl]
     have hrun:(Builtin.append_ #[t,t'] o.type #[.slice none 0 0,.int .i64 j]).run P w=.ok (.slice (some ⟨w.heap.size,0,none⟩) j.toNat (grownCap w j.toNat 0 el)) (w.drew.alloc (.cells (Builtin.zeroCells z.cells j.toNat++Builtin.zeroCells z.cells (grownCap w j.toNat 0 el - j.toNat)) el)):=by
      have hjz:¬j.toNat≤0:=by omega
      have n5:¬j≤0:=by omega
      have n6:¬(9223372036854775807<max j 0):=by omega
      simp[Builtin.append_,run_underlying hu,run_underlying hu',sizeOf,typeInfo,zeroValue,hie,hz',asInt,asIntOf,hwr,n0,n2,n4,hne,n5,n6,Question.forced,run_firstCells_none,newRow,grownCap]
     have hrow:qe7 w A μ H (Builtin.zeroCells z.cells j.toNat) (repl j.toNat zs):=by
      have:=qeN hc j.toNat
      rw[qgM,hc.1]
      rw[hc.1] at this
      exact this
     have hsz:(Builtin.zeroCells z.cells j.toNat++Builtin.zeroCells z.cells (grownCap w j.toNat 0 el - j.toNat)).size=grownCap w j.toNat 0 el*esz e:=by
      simp only[Array.size_append,size_zeroCells,hzsz,←Nat.add_mul]
      congr 1
      omega
     have hle:j.toNat*esz e≤grownCap w j.toNat 0 el*esz e:=Nat.mul_le_mul_right _ hcap
     have hrl:(repl j.toNat zs).length=j.toNat*esz e:=by rw[qbs,hzl]
     have hg:(w.drew.alloc (.cells (Builtin.zeroCells z.cells j.toNat++Builtin.zeroCells z.cells (grownCap w j.toNat 0 el - j.toNat)) el)).heap[w.heap.size]? = some (.cells (Builtin.zeroCells z.cells j.toNat++Builtin.zeroCells z.cells (grownCap w j.toNat 0 el - j.toNat)) el):=heap_alloc_new w.drew _
     obtain⟨hT,hS'⟩:=qft (w':=w.drew.alloc (.cells (Builtin.zeroCells z.cells j.toNat++Builtin.zeroCells z.cells (grownCap w j.toNat 0 el - j.toNat)) el)) (id:=fresh) (g:=w.heap.size) (ty:=el) (cs:=repl j.toNat zs) hS rfl ⟨rfl,Nat.le_succ _⟩ rfl (by simp) (fun b hb _=>heap_alloc_old w.drew _ hb) hg (.inl (Nat.le_refl _)) (.inl hf) (by rw[hsz,hrl];exact hle) hrow.2.1 (fun k hk=>by
      have e1:(Builtin.zeroCells z.cells j.toNat++Builtin.zeroCells z.cells (grownCap w j.toNat 0 el - j.toNat)).getD k Go.undef=(Builtin.zeroCells z.cells j.toNat).getD k Go.undef:=by
       simp only[Array.getD_eq_getD_getElem?]
       rw[Array.getElem?_append_left (by rw[hrow.1];exact hk)]
      rw[e1];exact hrow.2.2 k hk)
     refine⟨_,.slice (some ⟨w.heap.size,0,none⟩) j.toNat (grownCap w j.toNat 0 el),_,_,?_,.inl rfl,?_,hS',hT⟩
     ·unfold execOp
      simp only[ho]
      simp[resolve,invoke,builtin,hxv,hyv,hrun]
     ·have:=Rep.sl (w:=w.drew.alloc (.cells (Builtin.zeroCells z.cells j.toNat++Builtin.zeroCells z.cells (grownCap w j.toNat 0 el - j.toNat)) el)) (A:=A) (μ:=setMu μ fresh w.heap.size) (H:=H.set fresh (.live ⟨el,repl j.toNat zs⟩)) fresh (repl j.toNat zs).length e 0 j.toNat (grownCap w j.toNat 0 el) ⟨el,repl j.toNat zs⟩ _ (Heap.set_same _ _ _) rfl (by simp only[setMu,if_true];exact hg) hcap hcm (by rw[hsz];omega) (by rw[hrl];omega)
      rw[Heap.upd_one]
      simpa [setMu] using this
    ·cases hv
  ·cases hq
 ·cases hq
theorem qhc {cs:List T}{us:List Value}{ns:List Int}(h:qc4 cs=some ns)(hl:us.length=cs.length)(hR:∀i,i<cs.length→Rep w A μ H (us.getD i Go.undef) (cs.getD i .undef)):us=ns.map (Value.int .u8):=by
 induction cs generalizing us ns with
 | nil=>
  simp only[qc4,Option.some.injEq] at h
  subst h
  exact List.eq_nil_of_length_eq_zero hl
 | cons c cs ih=>
  cases us with
  | nil=>simp at hl
  | cons u us=>
   unfold qc4 at h
   split at h
   ·rename_i he;cases he
   ·rename_i n l hn
    injection hn with hn1 hn2
    subst hn2
    cases hb:qc4 cs with
    | none=>simp[hb] at h
    | some ms=>
     simp only[hb,Option.map_some,Option.some.injEq] at h
     subst h
     have h0:=hR 0 (by simp)
     simp only[List.getD_cons_zero] at h0
     rw[hn1] at h0
     rw[h0.int_inv,ih (us:=us) hb (by simpa using hl) (fun i hi=>by simpa using hR (i+1) (by simpa using hi))]
     rfl
   ·cases h
theorem quE {s d el:TypeId}{x:Operand}{x':Opd}{q:Req}{fresh:Nat}{F:List Nat}{U:List (Nat×Slot)}(ho:o.op=.convert s d x)(hs:P.underlying s=some (.slice el))(hd:P.underlying d=some .string)(hel:P.underlying el=some (.int .u8))(hx:opd x=some x')(he:EnvR w A μ H a env)(hS:Sim w A μ H)
 (hq:req env (.b2s x')=some q) (hv:q.run fresh H=some (v,F,U)):Does P o a w A μ H v (H.upd U):=by
 have h:=qas hx he hS.glb
 have hrun:∀p n c (ns:List Int),a.eval x=.slice (some p) n c→(loadCells p n).run P w=.ok (ns.map (Value.int .u8)).toArray w→(execOp a.eval o).run P w=.ok (.value (.string (qkg ns))) w:=fun p n c ns hp hl=>by
  have:=run_bytesToString (P:=P) w p n c ns hl
  unfold execOp
  simp only[ho,hp]
  simp[convert,run_underlying hs,run_underlying hd,run_underlying hel,this,qkg]
 simp only[req] at hq
 split at hq
 ·rename_i id tot e off n hr
  rw[hr] at h
  split at hq
  ·rename_i he0
   subst he0
   injection hq with hq;subst hq
   simp only[Req.run] at hv
   split at hv
   ·rename_i b hb
    split at hv
    ·rename_i hc
     cases hn:qc4 ((b.cs.drop off).take n) with
     | none=>rw[hn] at hv;cases hv
     | some ns=>
      rw[hn] at hv
      simp only[Option.map_some,Option.some.injEq,Prod.mk.injEq] at hv
      obtain⟨rfl,rfl,rfl⟩:=hv
      obtain⟨news,ad,c,hN⟩:=qg1 (e:=0) (m:=n) hS h hb hc.1 (by simp[esz];exact hc.2)
      have e1:n*esz 0=n:=by simp[esz]
      have hN2:=hN.clen
      rw[e1] at hN2
      have hcs:(b.cs.drop off).take (n*esz 0)=(b.cs.drop off).take n:=by rw[e1]
      have hvals:=qhc (w:=w) (A:=A) (μ:=μ) (H:=H) hn (us:=news) (by rw[hN.len,e1];exact hN2.symm) (fun i hi=>by
       have:=hN.rep i (by rw[hcs];exact hi)
       rwa [hcs] at this)
      refine Does.val hS (hrun ad n c ns hN.val ?_) (.str _)
      have hl:=run_loadCells_list (P:=P) w ad news hN.cell
      rw[hN.len,e1] at hl
      rw[hl,hvals]
    ·cases hv
   ·cases hv
  ·cases hq
 ·rename_i xs hr
  rw[hr] at h
  cases hn:qc4 xs with
  | none=>simp[hn] at hq
  | some ns=>
   simp only[hn,Option.map_some,Option.some.injEq] at hq;subst hq
   simp only[Req.run,Option.some.injEq,Prod.mk.injEq] at hv
   obtain⟨rfl,rfl,rfl⟩:=hv
   have hone:∀(xs:List T) (ns:List Int),qc4 xs=some ns→flat xs=xs∧∀x∈xs,x.cells.length=1:=fun xs=>by
    induction xs with
    | nil=>intro ns _;exact⟨rfl,fun x hx=>by cases hx⟩
    | cons y l ih=>
     intro ns h
     unfold qc4 at h
     split at h
     ·rename_i he;cases he
     ·rename_i n l' hnn
      injection hnn with hn1 hn2
      subst hn2
      cases hb:qc4 l with
      | none=>simp[hb] at h
      | some ms=>
       obtain⟨i1,i2⟩:=ih ms hb
       rw[hn1]
       refine⟨by rw[qbH,i1];rfl,fun x hx=>?_⟩
       rcases List.mem_cons.1 hx with rfl | hx
       ·rfl
       ·exact i2 x hx
     ·cases h
   obtain⟨o1,o2⟩:=hone xs ns hn
   generalize hvx:a.eval x=vx at h
   cases h with
   | lnil=>
    simp only[qc4,Option.some.injEq] at hn
    subst hn
    refine Does.val hS (u:=.string ByteArray.empty) ?_ (.str _)
    unfold execOp
    simp only[ho,hvx]
    simp[convert,run_underlying hs,run_underlying hd,run_underlying hel,Conv.bytesToString]
   | list p c k _ Uf hk hc h1 hA hU hR=>
    rw[o1] at hU hR
    have hl:=run_loadCells_list (P:=P) w p ((List.range xs.length).map Uf) (fun j v hj=>by
     have hjl:j<xs.length:=by
      rcases Nat.lt_or_ge j xs.length with h | h
      ·exact h
      ·rw[List.getElem?_eq_none (by simpa using h)] at hj;cases hj
     rw[hU j hjl]
     simp[hjl] at hj
     rw[hj])
    have hvals:=qhc (w:=w) (A:=A) (μ:=μ) (H:=H) hn (us:=(List.range xs.length).map Uf) (by simp) (fun i hi=>by
     have e1:((List.range xs.length).map Uf).getD i Go.undef=Uf i:=by simp[List.getD_eq_getElem?_getD,hi]
     rw[e1];exact hR i hi)
    refine Does.val hS (hrun p xs.length c ns hvx ?_) (.str _)
    rw[hvals] at hl
    have e2:(ns.map (Value.int .u8)).length=xs.length:=by rw[←hvals];simp
    rw[e2] at hl
    exact hl
 ·rename_i hr
  rw[hr] at h
  injection hq with hq;subst hq
  simp only[Req.run,Option.some.injEq,Prod.mk.injEq] at hv
  obtain⟨rfl,rfl,rfl⟩:=hv
  generalize hvx:a.eval x=vx at h
  cases h
  refine Does.val hS (u:=.string ByteArray.empty) ?_ (.str _)
  unfold execOp
  simp only[ho,hvx]
  simp[convert,run_underlying hs,run_underlying hd,run_underlying hel,Conv.bytesToString]
 ·cases hq
end
section
variable {P:Program} {o:Oper} {a:Act} {w w':World} {A:Sta} {μ:Nat→Nat} {H H':Heap} {env:Nat→T} {v:T}
theorem qnm {id g clock:Nat}{es:List (T×T)}{ents:Array MapEntry}(hS:Sim w A μ H)
 (hos:w'.os=w.os) (htape:w'.tape=w.tape∧w.drawn≤w'.drawn) (hout:w'.output=w.output) (hsize:w.heap.size≤w'.heap.size)
 (hsame:∀b,b<w.heap.size→((H id).owns=true→b≠μ id)→w'.heap[b]? = w.heap[b]?)
 (hg:w'.heap[g]? = some (.map ents clock))
 (hok:H id=.free∧w.heap.size≤g∨∃es0,H id=.map es0∧g=μ id)
 (hn:ents.size=es.length) (hR:∀k,k<es.length→Rep w A μ H (ents.getD k default).key (es.getD k (.undef,.undef)).1∧Rep w A μ H (ents.getD k default).val (es.getD k (.undef,.undef)).2) :
 Trans w A μ H w' A (setMu μ id g) (H.set id (.map es))∧Sim w' A (setMu μ id g) (H.set id (.map es)):=by
 have hne:∀i,i≠id→setMu μ id g i=μ i:=fun i hi=>by simp[setMu,hi]
 have hid:setMu μ id g id=g:=by simp[setMu]
 have hgo:w.heap.size≤g∨((H id).owns=true∧g=μ id):=by
  rcases hok with⟨_,h⟩ | ⟨es0,h1,h2⟩
  ·exact .inl h
  ·exact .inr ⟨by simp[h1,Slot.owns],h2⟩
 have hsm:∀i,(H i).owns=true→i≠id→w'.heap[μ i]? = w.heap[μ i]?:=fun i hi hn=>
  hsame _ (hS.lt hi) fun ho he=>hn (hS.inj i id hi ho he)
 have hT:Trans w A μ H w' A (setMu μ id g) (H.set id (.map es)):=by
  refine⟨hos,htape,hout,hsize,?_,?_,fun _ _ h=>.inl h,?_,?_,?_⟩
  ·intro b hb hn
   refine⟨hsame b hb fun ho he=>hn id ho he.symm,fun i hi=>?_⟩
   by_cases e:i=id
   ·subst e
    rw[hid]
    rcases hgo with h | ⟨ho,h⟩
    ·omega
    ·rw[h];exact hn _ ho
   ·rw[hne i e]
    rw[Heap.set_other _ _ e] at hi
    exact hn i hi
  ·intro b o ha hb
   refine⟨ha,?_⟩
   have:=hsame b hb fun ho he=>hS.dis id ho o (he▸ha)
   simp[World.cell?,this]
  ·intro i b hb
   have e:i≠id:=fun e=>by
    subst e
    rcases hok with⟨h,_⟩ | ⟨es0,h,_⟩<;>simp_all
   rw[Heap.set_other _ _ e]
   exact .inr ⟨b,hb,.inr ⟨rfl,hne i e,rfl,fun c0 h0=>⟨c0,by rw[hsm i (by simp[hb,Slot.owns]) e];exact h0,rfl⟩⟩⟩
  ·intro i es' hb
   by_cases e:i=id
   ·subst e
    rw[Heap.set_same]
    rcases hok with⟨h,_⟩ | ⟨es0,h,h2⟩
    ·simp[hb] at h
    ·exact .inr ⟨es,rfl,by rw[hid,h2]⟩
   ·rw[Heap.set_other _ _ e]
    exact .inr ⟨es',hb,hne i e⟩
  ·intro i hd
   have e:i≠id:=fun e=>by
    subst e
    rcases hok with⟨h,_⟩ | ⟨es0,h,_⟩<;>simp_all
   rw[Heap.set_other _ _ e]
   exact hd
 refine⟨hT,?_,?_,?_,?_,(fun b o ha=>Nat.lt_of_lt_of_le (hS.sta b o ha) hsize),hS.glb.trans hT⟩
 ·intro i j hi hj he
  have key:∀i,i≠id→(H.set id (.map es) i).owns=true→setMu μ id g i=setMu μ id g id→False:=fun i e hi he=>by
   rw[Heap.set_other _ _ e] at hi
   rw[hne i e,hid] at he
   rcases hgo with h | ⟨ho,h⟩
   ·have:=hS.lt hi;omega
   ·rw[h] at he;exact e (hS.inj i id hi ho he)
  by_cases e:i=id<;>by_cases e':j=id
  ·rw[e,e']
  ·exact (key j e' hj (by rw[←he,e])).elim
  ·exact (key i e hi (by rw[he,e'])).elim
  ·rw[Heap.set_other _ _ e] at hi
   rw[Heap.set_other _ _ e'] at hj
   rw[hne i e,hne j e'] at he
   exact hS.inj i j hi hj he
 ·intro i b hb
  by_cases e:i=id
  ·subst e;rw[Heap.set_same] at hb;cases hb
  ·rw[Heap.set_other _ _ e] at hb
   obtain⟨c0,a1,a2,a3,a4⟩:=hS.blk i b hb
   exact⟨c0,by rw[hne i e,hsm i (by simp[hb,Slot.owns]) e];exact a1,a2,a3,fun k hk=>(a4 k hk).trans hT⟩
 ·intro i es' hb
  by_cases e:i=id
  ·subst e
   rw[Heap.set_same] at hb
   injection hb with hb
   subst hb
   exact⟨ents,clock,by rw[hid];exact hg,hn,fun k hk=>⟨(hR k hk).1.trans hT,(hR k hk).2.trans hT⟩⟩
  ·rw[Heap.set_other _ _ e] at hb
   obtain⟨c0,cl,a1,a2,a3⟩:=hS.map i es' hb
   exact⟨c0,cl,by rw[hne i e,hsm i (by simp[hb,Slot.owns]) e];exact a1,a2,fun k hk=>⟨(a3 k hk).1.trans hT,(a3 k hk).2.trans hT⟩⟩
 ·intro i hi o ha
  by_cases e:i=id
  ·subst e
   rw[hid] at ha
   rcases hgo with h | ⟨ho,h⟩
   ·have:=hS.sta _ _ ha;omega
   ·rw[h] at ha;exact hS.dis _ ho o ha
  ·rw[hne i e] at ha
   rw[Heap.set_other _ _ e] at hi
   exact hS.dis i hi o ha
theorem qqU {t:TypeId}{fresh:Nat}(ho:o.op=.makeMap t none)(hS:Sim w A μ H)(hf:H fresh=.free):Does P o a w A μ H (.mp fresh) (H.set fresh (.map [])):=by
 have hg:(w.alloc (.map #[] 0)).heap[w.heap.size]? = some (.map #[] 0):=heap_alloc_new w _
 obtain⟨hT,hS'⟩:=qnm (w':=w.alloc (.map #[] 0)) (id:=fresh) (g:=w.heap.size) (es:=[]) hS rfl ⟨rfl,Nat.le_refl _⟩ rfl (by simp) (fun b hb _=>heap_alloc_old w _ hb) hg (.inl ⟨hf,Nat.le_refl _⟩) rfl (fun k hk=>by cases hk)
 refine⟨_,.map (some w.heap.size),_,_,?_,.inl rfl,?_,hS',hT⟩
 ·unfold execOp
  simp only[ho,Option.map_none]
  simp[Instr.makeMap]
 ·have:=Rep.mp (w:=w.alloc (.map #[] 0)) (A:=A) (μ:=setMu μ fresh w.heap.size) (H:=H.set fresh (.map [])) fresh [] (Heap.set_same _ _ _)
  simpa [setMu] using this
theorem qtj (a b:ByteArray):(a==b)=(a.data==b.data):=by rfl
theorem ba_eq {a b:ByteArray}(h:(a==b)=true):a=b:=by
 rw[qtj] at h
 have:=eq_of_beq h
 cases a;cases b;simp_all
theorem qtL (a:ByteArray):(a==a)=true:=by rw[qtj];exact beq_self_eq_true _
def ql6 (kk:Bool)(d:TypeDesc):Prop:=(kk=true∧d=.string)∨(kk=false∧∃k,d=.int k)
theorem qpz {t:TypeId}{kk:Bool}(h:keyK P t=some kk):∃d,P.underlying t=some d∧ql6 kk d:=by
 unfold keyK at h
 split at h
 ·rename_i hu;injection h with h;subst h;exact⟨_,hu,.inl ⟨rfl,rfl⟩⟩
 ·rename_i k hu;injection h with h;subst h;exact⟨_,hu,.inr ⟨rfl,k,rfl⟩⟩
 ·cases h
theorem qnl {kk:Bool}{d:TypeDesc}{k k':T}{u u':Value}{b:Bool}(hd:ql6 kk d)(hk:isKind kk k=true)(hu:Rep w A μ H u k)(hu':Rep w A μ H u' k')(h:qnU k k'=some b):Instr.sameNow d u u'=some b∧(b=true→u'=u):=by
 unfold qnU at h
 split at h
 ·injection h with h
  rw[hu.str_inv,hu'.str_inv]
  rcases hd with⟨rfl,rfl⟩ | ⟨rfl,k,rfl⟩
  ·refine⟨by simp[Instr.sameNow,h],fun hb=>?_⟩
   rw[hb] at h
   rw[ba_eq h]
  ·simp[isKind] at hk
 ·split at h
  ·rename_i hj
   subst hj
   injection h with h
   rw[hu.int_inv,hu'.int_inv]
   rcases hd with⟨rfl,rfl⟩ | ⟨rfl,k,rfl⟩
   ·simp[isKind] at hk
   ·refine⟨by simp[Instr.sameNow,h],fun hb=>?_⟩
    rw[hb] at h
    rw[eq_of_beq h]
  ·cases h
 ·cases h
theorem qjk {kk:Bool}{d:TypeDesc}{k:T}{u:Value}(hd:ql6 kk d)(hk:isKind kk k=true)(hu:Rep w A μ H u k)(nv:T):∀(l:List MapEntry) (es:List (T×T)) (i:Nat) (r:Option T),l.length=es.length→
 (∀q,q<es.length→Rep w A μ H (l.getD q default).key (es.getD q (.undef,.undef)).1∧Rep w A μ H (l.getD q default).val (es.getD q (.undef,.undef)).2)→qkn k es=some r→
 (r=none∧Instr.findNow d u l i=some none∧qjR k nv es=es++[(k,nv)])∨
 (∃x j,r=some x∧j<es.length∧Instr.findNow d u l i=some (some (i+j,(l.getD j default).val))∧Rep w A μ H (l.getD j default).val x∧(l.getD j default).key=u∧qjR k nv es=es.set j (k,nv))
 | [],[],i,r,_,_,h=>by
  simp only[qkn,Option.some.injEq] at h
  exact .inl ⟨h.symm,rfl,rfl⟩
 | e::l,y::es,i,r,hl,hR,h=>by
  simp only[qkn] at h
  have h0:=hR 0 (by simp)
  simp only[List.getD_cons_zero] at h0
  split at h
  ·rename_i hke
   injection h with h
   obtain⟨s1,s2⟩:=qnl hd hk hu h0.1 hke
   refine .inr ⟨y.2,0,h.symm,by simp,?_,h0.2,s2 rfl,?_⟩
   ·simp[Instr.findNow,s1]
   ·simp[qjR,hke]
  ·rename_i hke
   obtain⟨s1,_⟩:=qnl hd hk hu h0.1 hke
   rcases qjk hd hk hu nv l es (i+1) r (by simpa using hl) (fun q hq=>by simpa using hR (q+1) (by simpa using hq)) h with⟨a1,a2,a3⟩ | ⟨x,j,a1,a2,a3,a4,a5,a6⟩
   ·refine .inl ⟨a1,?_,?_⟩
    ·simp[Instr.findNow,s1,a2]
    ·simp[qjR,hke,a3]
   ·refine .inr ⟨x,j+1,a1,by simpa using a2,?_,a4,a5,?_⟩
    ·simp[Instr.findNow,s1,a3,Nat.add_assoc,Nat.add_comm 1 j]
    ·simp[qjR,hke,a6]
  ·cases h
 | [],_::_,_,_,hl,_,_=>by simp at hl
 | _::_,[],_,_,hl,_,_=>by simp at hl
theorem qiT {kk:Bool}{d:TypeDesc}{kt:TypeId}{k:T}{u:Value}(hu:P.underlying kt=some d)(hd:ql6 kk d)(hk:isKind kk k=true)(hr:Rep w A μ H u k)(em:Bool)(n:Nat):(Instr.checkKey em (n+1) kt u).run P w=.ok () w:=by
 have:(∃s,u=.string s∧d=.string)∨(∃j m k0,u=.int j m∧d=.int k0):=by
  rcases hd with⟨rfl,rfl⟩ | ⟨rfl,k0,rfl⟩
  ·cases k<;>simp[isKind] at hk
   exact .inl ⟨_,hr.str_inv,rfl⟩
  ·cases k<;>simp[isKind] at hk
   exact .inr ⟨_,_,_,hr.int_inv,rfl⟩
 unfold Instr.checkKey
 simp only[Sem.run_bind,run_underlying hu,Result.andThen_ok]
 rcases this with⟨s,rfl,rfl⟩ | ⟨j,m,k0,rfl,rfl⟩<;>rfl
theorem qte {t:TypeId}{z:T}(h:zer1 P t=some z):∃u,(zeroValue t).run P w=.ok u w∧Rep w A μ H u z:=by
 unfold zer1 at h
 split at h
 ·rename_i u hu
  cases hi:P.info? t with
  | none=>simp[hi] at hu
  | some i=>
   simp[hi] at hu
   exact⟨u,by simp[zeroValue,typeInfo,hi,hu],qj7 h⟩
 ·cases h
theorem getD_map (xs:Array MapEntry)(i:Nat):xs.toList.getD i default=xs.getD i default:=by simp[List.getD_eq_getElem?_getD]
theorem qsL {t kt et:TypeId}{m k:Operand}{m' k':Opd}{kk ok:Bool}{z:T}{id fresh:Nat}{F:List Nat}{U:List (Nat×Slot)}(ho:o.op=.lookup t m k ok)(hu:P.underlying t=some (.map kt et))(hkk:keyK P kt=some kk)(hz:zer1 P et=some z)(hm:opd m=some m')(hk:opd k=some k')(he:EnvR w A μ H a env)(hS:Sim w A μ H)
 (hr:m'.ev env=.mp id) (hi:isKind kk (k'.ev env)=true) (hv:(Req.look id (k'.ev env) z ok).run fresh H=some (v,F,U)):Does P o a w A μ H v (H.upd U):=by
 have hM:=qas hm he hS.glb
 have hK:=qas hk he hS.glb
 rw[hr] at hM
 obtain⟨d,hd,hko⟩:=qpz hkk
 obtain⟨zu,hzr,hzrep⟩:=qte (w:=w) (A:=A) (μ:=μ) (H:=H) hz
 simp only[Req.run] at hv
 split at hv
 ·rename_i es hes
  obtain⟨ents,clock,h1,h2,h3⟩:=hS.map id es hes
  have hmv:a.eval m=.map (some (μ id)):=by
   generalize a.eval m=vm at hM
   cases hM with
   | mp _ es' h=>rfl
   | mpS r _ h=>rw[hes] at h;cases h
  have hg:(getObj (μ id)).run P w=.ok (.map ents clock) w:=by simp[getObj,Sem.run,h1]
  have hchk:=qiT (w:=w) (A:=A) (μ:=μ) (H:=H) hd hko hi hK ents.isEmpty 9999
  have hrel:=fun r hf=>qjk (w:=w) (A:=A) (μ:=μ) (H:=H) hko hi hK .undef ents.toList es 0 r (by simpa using h2) (fun q hq=>by rw[getD_map];exact h3 q hq) hf
  split at hv
  ·rename_i x hf
   simp only[Option.some.injEq,Prod.mk.injEq] at hv
   obtain⟨rfl,rfl,rfl⟩:=hv
   rcases hrel _ hf with⟨hh,_⟩ | ⟨y,j,hh,hj,hfn,hrv,_,_⟩
   ·cases hh
   ·injection hh with hh
    subst hh
    refine Does.val hS (u:=if ok then .tuple #[(ents.toList.getD j default).val,.bool true] else (ents.toList.getD j default).val) ?_ ?_
    ·unfold execOp
     simp only[ho,hmv]
     simp[Instr.lookup,run_underlying hu,hg,hchk,Instr.findKey,run_underlying hd,hfn]
    ·cases ok
     ·exact hrv
     ·exact .tup _ _ rfl fun i hi=>by
       match i,hi with
       | 0,_=>exact hrv
       | 1,_=>exact .bool true
  ·rename_i hf
   simp only[Option.some.injEq,Prod.mk.injEq] at hv
   obtain⟨rfl,rfl,rfl⟩:=hv
   rcases hrel _ hf with⟨_,hfn,_⟩ | ⟨y,j,hh,_⟩
   ·refine Does.val hS (u:=if ok then .tuple #[zu,.bool false] else zu) ?_ ?_
    ·unfold execOp
     simp only[ho,hmv]
     simp[Instr.lookup,run_underlying hu,hg,hchk,Instr.findKey,run_underlying hd,hfn,hzr]
    ·cases ok
     ·exact hzrep
     ·exact .tup _ _ rfl fun i hi=>by
       match i,hi with
       | 0,_=>exact hzrep
       | 1,_=>exact .bool false
   ·cases hh
  ·cases hv
 ·cases hv
theorem qk6 {kk:Bool}{k:T}{u:Value}(hk:isKind kk k=true)(hr:Rep w A μ H u k)(n:Nat):Instr.sameBits n u u=true:=by
 cases k<;>cases kk<;>simp[isKind] at hk
 ·rw[hr.int_inv];cases n<;>simp[Instr.sameBits]
 ·rw[hr.str_inv];cases n<;>simp[Instr.sameBits,qtL]
theorem qnq {t kt et:TypeId}{m k x:Operand}{m' k' x':Opd}{kk:Bool}{id fresh:Nat}{F:List Nat}{U:List (Nat×Slot)}(ho:o.op=.mapUpdate t m k x∨o.op=.insert t m k x)(hu:P.underlying t=some (.map kt et))(hkk:keyK P kt=some kk)(hm:opd m=some m')(hk:opd k=some k')(hx:opd x=some x')(he:EnvR w A μ H a env)(hS:Sim w A μ H)
 (hr:m'.ev env=.mp id) (hi:isKind kk (k'.ev env)=true) (hv:(Req.mset id (k'.ev env) (x'.ev env)).run fresh H=some (v,F,U)):Does P o a w A μ H v (H.upd U):=by
 have hM:=qas hm he hS.glb
 have hK:=qas hk he hS.glb
 have hX:=qas hx he hS.glb
 rw[hr] at hM
 obtain⟨d,hd,hko⟩:=qpz hkk
 simp only[Req.run] at hv
 split at hv
 ·rename_i es hes
  obtain⟨ents,clock,h1,h2,h3⟩:=hS.map id es hes
  have hmv:a.eval m=.map (some (μ id)):=by
   generalize a.eval m=vm at hM
   cases hM with
   | mp _ es' h=>rfl
   | mpS r _ h=>rw[hes] at h;cases h
  have hg:(getObj (μ id)).run P w=.ok (.map ents clock) w:=by simp[getObj,Sem.run,h1]
  have hset:∀ob,(setObj (μ id) ob).run P w=.ok () { w with heap:=w.heap.setIfInBounds (μ id) ob }:=fun ob=>by simp[setObj,Sem.run,h1]
  have hlt:=qbu h1
  have hchk:=qiT (w:=w) (A:=A) (μ:=μ) (H:=H) hd hko hi hK false 9999
  have hrel:=fun r hf=>qjk (w:=w) (A:=A) (μ:=μ) (H:=H) hko hi hK (x'.ev env) ents.toList es 0 r (by simpa using h2) (fun q hq=>by rw[getD_map];exact h3 q hq) hf
  have hown:(H id).owns=true:=by simp[hes,Slot.owns]
  have hput:∀(ents':Array MapEntry) (clock':Nat) (es':List (T×T)),ents'.size=es'.length→(∀q,q<es'.length→Rep w A μ H (ents'.getD q default).key (es'.getD q (.undef,.undef)).1∧Rep w A μ H (ents'.getD q default).val (es'.getD q (.undef,.undef)).2)→
   (execOp a.eval o).run P w=.ok .skip { w with heap:=w.heap.setIfInBounds (μ id) (.map ents' clock') }→Does P o a w A μ H (.tup []) (H.set id (.map es')):=fun ents' clock' es' g1 g2 g3=>by
   obtain⟨hT,hS'⟩:=qnm (w':={ w with heap:=w.heap.setIfInBounds (μ id) (.map ents' clock') }) (id:=id) (g:=μ id) (clock:=clock') (es:=es') (ents:=ents') hS rfl ⟨rfl,Nat.le_refl _⟩ rfl (by simp) (fun b hb hne=>by
    simp only[]
    rw[Array.getElem?_setIfInBounds_ne (Ne.symm (hne hown))]) (by simp[hlt]) (.inr ⟨es,hes,rfl⟩) g1 g2
   exact⟨.skip,Go.undef,_,_,g3,.inr ⟨rfl,rfl⟩,.tup #[] [] rfl (fun i hi=>by cases hi),hS',hT⟩
  split at hv
  ·rename_i r hf
   simp only[Option.some.injEq,Prod.mk.injEq] at hv
   obtain⟨rfl,rfl,rfl⟩:=hv
   rw[Heap.upd_one]
   rcases hrel _ hf with⟨_,hfn,hms⟩ | ⟨y,j,hh,hj,hfn,hrv,hkey,hms⟩
   ·rw[hms]
    refine hput (ents.push { key:=a.eval k,val:=a.eval x,born:=clock }) (clock+1) _ (by simp[h2]) (fun q hq=>?_) ?_
    ·simp only[List.length_append,List.length_singleton] at hq
     by_cases hql:q<es.length
     ·have e1:(ents.push { key:=a.eval k,val:=a.eval x,born:=clock }).getD q default=ents.getD q default:=by
       simp[Array.getElem?_push,Nat.ne_of_lt (h2▸hql)]
      have e2:(es++[(k'.ev env,x'.ev env)]).getD q (.undef,.undef)=es.getD q (.undef,.undef):=by
       simp only[List.getD_eq_getElem?_getD];rw[List.getElem?_append_left hql]
      rw[e1,e2];exact h3 q hql
     ·have hqe:q=es.length:=by omega
      subst hqe
      have e1:(ents.push { key:=a.eval k,val:=a.eval x,born:=clock }).getD es.length default={ key:=a.eval k,val:=a.eval x,born:=clock }:=by
       rw[←h2];simp
      have e2:(es++[(k'.ev env,x'.ev env)]).getD es.length (.undef,.undef)=(k'.ev env,x'.ev env):=by
       simp[List.getD_eq_getElem?_getD]
      rw[e1,e2];exact⟨hK,hX⟩
    ·unfold execOp
     rcases ho with ho | ho<;>
     ·simp only[ho,hmv]
      simp[Instr.mapUpdate,run_underlying hu,hg,hchk,Instr.findKey,run_underlying hd,hfn,hset]
   ·rw[hms]
    have hj2:j<ents.size:=by omega
    have hke:ents[j].key=a.eval k:=by
     have:ents.toList.getD j default=ents[j]:=by simp[List.getD_eq_getElem?_getD,hj2]
     rw[this] at hkey;exact hkey
    refine hput (ents.modify j fun e=>{ e with key:=a.eval k,val:=a.eval x }) clock _ (by simp[h2]) (fun q hq=>?_) ?_
    ·simp only[List.length_set] at hq
     by_cases hqj:q=j
     ·subst hqj
      have e1:(ents.modify q fun e=>{ e with key:=a.eval k,val:=a.eval x }).getD q default={ ents[q] with key:=a.eval k,val:=a.eval x }:=by
       have hq2:q<(ents.modify q fun e=>{ e with key:=a.eval k,val:=a.eval x }).size:=by simpa using hj2
       rw[Array.getD_eq_getD_getElem?,Array.getElem?_eq_getElem hq2,Array.getElem_modify]
       simp
      have e2:(es.set q (k'.ev env,x'.ev env)).getD q (.undef,.undef)=(k'.ev env,x'.ev env):=by
       simp[List.getD_eq_getElem?_getD,hj]
      rw[e1,e2];exact⟨hK,hX⟩
     ·have e1:(ents.modify j fun e=>{ e with key:=a.eval k,val:=a.eval x }).getD q default=ents.getD q default:=by
       simp[Array.getElem?_modify,Ne.symm hqj]
      have e2:(es.set j (k'.ev env,x'.ev env)).getD q (.undef,.undef)=es.getD q (.undef,.undef):=by
       simp only[List.getD_eq_getElem?_getD];rw[List.getElem?_set_ne (Ne.symm hqj)]
      rw[e1,e2];exact h3 q hq
    ·have hsb:=qk6 (w:=w) (A:=A) (μ:=μ) (H:=H) hi hK 10000
     unfold execOp
     rcases ho with ho | ho<;>
     ·simp only[ho,hmv]
      simp[Instr.mapUpdate,run_underlying hu,hg,hchk,Instr.findKey,run_underlying hd,hfn,hj2,hke,Instr.keyThatStays,hsb,hset]
  ·cases hv
 ·cases hv
theorem qoq {id tot off:Nat}{b:Blk}{vs:List Value}{cs:List T}(hS:Sim w A μ H)(hb:H id=.live b)(ht:b.cs.length=tot)(hl:vs.length=cs.length)(c2:Ones cs)(c3:∀k,k<cs.length→Rep w A μ H (vs.getD k Go.undef) (cs.getD k .undef))(hf:off+cs.length≤tot) :
 ∃W,(storeCells ⟨μ id,off,none⟩ vs).run P w=.ok () W∧Trans w A μ H W A (setMu μ id (μ id)) (H.set id (.live ⟨b.ty,splice b.cs off cs⟩))∧Sim W A (setMu μ id (μ id)) (H.set id (.live ⟨b.ty,splice b.cs off cs⟩)):=by
 obtain⟨cur,h1,h2,h3,h4⟩:=hS.blk id b hb
 have hone:∀u∈vs,u.oneCell'=true:=Rep.ones_cell hl c2 c3
 have hrun:=run_storeCells_at P (μ id) off b.ty vs 0 cur w h1 (by omega) hone
 have hnew:=setRow_heap w (μ id) cur (cur.toList.take (off+0)++vs++cur.toList.drop (off+0+vs.length)).toArray b.ty _ h1
 have hown:(H id).owns=true:=by simp[hb,Slot.owns]
 have hsz:(cur.toList.take (off+0)++vs++cur.toList.drop (off+0+vs.length)).toArray.size=cur.size:=by
  simp only[List.size_toArray,List.length_append,List.length_take,List.length_drop,Array.length_toList]
  omega
 obtain⟨hT,hS'⟩:=qft (w':=w.setRow (μ id) (cur.toList.take (off+0)++vs++cur.toList.drop (off+0+vs.length)).toArray) (id:=id) (g:=μ id) (ty:=b.ty) (cs:=splice b.cs off cs) hS rfl ⟨rfl,Nat.le_refl _⟩ rfl (by simp) (fun k hk hne=>setRow_other w _ k _ (hne hown)) hnew (.inr ⟨hown,rfl⟩)
  (.inr ⟨b,hb,.inr ⟨qaZ (by omega),rfl,rfl,fun c0 h0=>by rw[h1] at h0;injection h0 with h0;injection h0 with h0;rw[hsz,h0]⟩⟩) (by rw[qaZ (by omega),hsz];exact h2) (qd7 h3 c2) (fun k hk=>by
   rw[qaZ (by omega)] at hk
   rw[qe5 (by omega) hk]
   have hkc:k<cur.size:=by omega
   simp only[Array.getD_eq_getD_getElem?,List.getElem?_toArray,Nat.add_zero]
   by_cases q1:k<off
   ·rw[if_neg (by omega),List.append_assoc,List.getElem?_append_left (by simp;omega),List.getElem?_take,if_pos q1]
    have:=h4 k hk
    simpa using this
   ·by_cases q2:k<off+cs.length
    ·rw[if_pos (by omega),List.append_assoc,List.getElem?_append_right (by simp;omega),List.getElem?_append_left (by simp;omega)]
     have e1:k - (cur.toList.take off).length=k - off:=by simp;omega
     rw[e1]
     have:=c3 (k - off) (by omega)
     simpa [List.getD_eq_getElem?_getD] using this
    ·rw[if_neg (by omega),List.getElem?_append_right (by simp;omega),List.getElem?_drop]
     have e1:off+vs.length+(k - (cur.toList.take off++vs).length)=k:=by simp;omega
     rw[e1]
     have:=h4 k hk
     simpa using this)
 exact⟨_,hrun,hT,hS'⟩
theorem qoo (xs:List T)(off:Nat):splice xs off []=xs:=by simp[splice]
theorem qqP {t el e fresh:Nat}{ie:TypeInfo}{zs:List T}{x:Operand}{x':Opd}{q:Req}{F:List Nat}{U:List (Nat×Slot)}(ho:o.op=.call { callee:=.builtin .clear,args:=#[x],argTypes:=#[t] })(hu:P.underlying t=some (.slice el))(hie:P.info? el=some ie)(hs:ie.size=esz e)(hz:zer P el=some zs)(hzl:zs.length=esz e)
 (hx:opd x=some x') (he:EnvR w A μ H a env) (hS:Sim w A μ H) (hq:req env (.clear e zs x')=some q) (hv:q.run fresh H=some (v,F,U)):Does P o a w A μ H v (H.upd U):=by
 have h:=qas hx he hS.glb
 have hzero:∀p c,a.eval x=.slice p 0 c→(execOp a.eval o).run P w=.ok (.value (.tuple #[])) w:=fun p c hp=>by
  unfold execOp
  simp only[ho]
  cases p<;>simp[resolve,invoke,builtin,hp,Builtin.clear_,run_underlying hu]
 simp only[req] at hq
 split at hq
 ·rename_i id tot e' off n hr
  rw[hr] at h
  split at hq
  ·rename_i hee
   subst hee
   injection hq with hq;subst hq
   simp only[Req.run] at hv
   split at hv
   ·rename_i b hb
    split at hv
    ·rename_i hc
     simp only[Option.some.injEq,Prod.mk.injEq] at hv
     obtain⟨rfl,rfl,rfl⟩:=hv
     rw[Heap.upd_one]
     have hsh:∃c,a.eval x=.slice (some ⟨μ id,off,none⟩) n c:=by
      generalize a.eval x=vx at h
      cases h with
      | sl _ _ _ _ _ c=>exact⟨c,rfl⟩
      | slS p c _ _ _ _ _ hn hst=>
       rcases hst with hd | ⟨b',hb',hl'⟩
       ·rw[hb] at hd;cases hd
       ·rw[hb] at hb';injection hb' with hb';subst hb';omega
     obtain⟨c,hp⟩:=hsh
     by_cases h0:n=0
     ·subst h0
      have e1:repl 0 zs=[]:=rfl
      rw[e1,qoo]
      have hbe:H.set id (.live ⟨b.ty,b.cs⟩)=H:=set_self (by rw[hb])
      rw[hbe]
      exact Does.val hS (hzero _ _ hp) (.tup #[] [] rfl fun i hi=>by cases hi)
     ·obtain⟨i0,z,hi,hz',hcz⟩:=qgx (w:=w) (A:=A) (μ:=μ) (H:=H) hz
      rw[hie] at hi
      injection hi with hi
      subst hi
      have hrow:qe7 w A μ H (Builtin.zeroCells z.cells n) (repl n zs):=by
       have:=qeN hcz n
       rw[qgM,hcz.1]
       rw[hcz.1] at this
       exact this
      obtain⟨W,g1,g2,g3⟩:=qoq (P:=P) (vs:=(Builtin.zeroCells z.cells n).toList) hS hb hc.1 (by simpa using hrow.1) hrow.2.1 (fun k hk=>by rw[getD_toList];exact hrow.2.2 k hk) hc.2
      refine⟨_,.tuple #[],W,_,?_,.inl rfl,.tup #[] [] rfl (fun i hi=>by cases hi),g3,g2⟩
      unfold execOp
      simp only[ho]
      obtain⟨n',rfl⟩:=Nat.exists_eq_succ_of_ne_zero h0
      simp[resolve,invoke,builtin,hp,Builtin.clear_,run_underlying hu,zeroValue,typeInfo,hie,hz',g1]
    ·cases hv
   ·cases hv
  ·cases hq
 ·rename_i hr
  rw[hr] at h
  injection hq with hq;subst hq
  simp only[Req.run,Option.some.injEq,Prod.mk.injEq] at hv
  obtain⟨rfl,rfl,rfl⟩:=hv
  generalize hvx:a.eval x=vx at h
  cases h
  exact Does.val hS (hzero _ _ hvx) (.tup #[] [] rfl fun i hi=>by cases hi)
 ·rename_i ys hr
  rw[hr] at h
  split at hq
  ·injection hq with hq;subst hq
   simp only[Req.run,Option.some.injEq,Prod.mk.injEq] at hv
   obtain⟨rfl,rfl,rfl⟩:=hv
   have:∃p c,a.eval x=.slice p 0 c:=by
    generalize a.eval x=vx at h
    cases h with
    | lnil=>exact⟨_,_,rfl⟩
    | list _ c=>exact⟨_,c,rfl⟩
   obtain⟨p,c,hp⟩:=this
   exact Does.val hS (hzero _ _ hp) (.tup #[] [] rfl fun i hi=>by cases hi)
  ·cases hq
 ·cases hq
end
end
end Go.Proofs.YtkbjpglehdhjfaaGreatDoor
