/- Contracts of functions of the program, for all arguments that they name. -/
import Derived.Test.YtkbjpglehdhjfaaGreatDoorRows
import Derived.OpenShut
import Derived.SliceStrings
import Derived.MakeChecks
import Derived.FnData
import Derived.ChangeSame
import Derived.Test.YtkbjpglehdhjfaaGreatDoorK21
import Derived.Test.YtkbjpglehdhjfaaGreatDoorK23
namespace Go.Proofs.YtkbjpglehdhjfaaGreatDoor
set_option linter.unusedVariables false
section
open Go.RowKit
set_option maxHeartbeats 2000000
attribute [local simp] qau qav qaD qaJ qa1 qbo qaB qah qaT
theorem quU (z:Th):(thC z).length=2:=rfl
set_option maxHeartbeats 8000000 in
theorem prb (z:Th)(vals nt:Nat)(hv:1≤vals∧vals≤2)(hnt:nt=2)(num:Int)(h0:0≤num∧num≤100)(d:Dc)(hok:d.ok)(L:List Lne)(d':Dc)(hLD:qby vals nt (cntD d) (cntD d) (num+1) (qao d 3).2=(L,d'))(Q:IExit→(Nat→T)→Heap→Prop)
 (hQ:WL Tryz.prog 86 qep (ofL (prE nt (num+1+cntD d+1) 2)) (hpL (prH2 z ⟨⟨#[119,111,114,107]⟩,L⟩ vals d')) Q) :
 WL Tryz.prog 86 qep (ofL (prE nt num 1)) (hpL (prH1 z vals d)) Q:=by
 have hpk:=qbN d hok 3 (by omega)
 have hr:=qa6 hok (n:=3) (by omega)
 have hok2:=qaL hok 3
 have hkk:(cntD d:Int)=1+(qao d 3).1:=by rw[cntD];omega
 have hlen:=qeZ (vals:=vals) (nt:=nt) (n:=cntD d) (cntD d) (num+1) (qao d 3).2
 rw[hLD] at hlen
 have hk3:cntD d≤3:=by omega
 have hk1:1≤cntD d:=by omega
 have hL:=fun Q a=>pqb_l1 z vals nt (cntD d) hv (by omega) hk3 ⟨#[119,111,114,107]⟩ 1 (num+1+cntD d) (L,d') Q a (cntD d) 0 (num+1) (qao d 3).2 [] hok2 (by omega) rfl (by omega) (by omega) (by omega) (by rw[List.nil_append,hLD])
 have hwk:IntKind.wrap .i64 (1+(qao d 3).1)=(cntD d:Int):=by rw[wrap64 (by omega) (by omega),hkk]
 have hd:decide (1<(nt:Int))=true:=decide_eq_true (by omega)
 have hlt:1<(nt:Int):=by omega
 have hw:IntKind.wrap .i64 (1+1)=2:=rfl
 have hw1:IntKind.wrap .i64 (num+1)=num+1:=wrap64 (by omega) (by omega)
 have hw2:IntKind.wrap .i64 (num+1+cntD d+1)=num+1+cntD d+1:=wrap64 (by omega) (by omega)
 have hnm:List.take 1 (List.drop ((1:Int).toNat*1) [T.str ⟨#[109,97,105,110]⟩,.str ⟨#[119,111,114,107]⟩])=[.str ⟨#[119,111,114,107]⟩]:=rfl
 clear hkk hLD hr hok2
 generalize (qao d 3).1=x at*
 generalize (qao d 3).2=e at*
 generalize cntD d=k at*
 simp only at hlen
 cases L with
 | nil=>simp at hlen;omega
 | cons y ys=>
  simp only[prE,prH1,prH2,pqB,qck,qcj,List.cons_append,List.nil_append,List.append_nil,Int.natCast_zero] at hL hQ ⊢
  have fX:=(cJ8 @hd @hw @hw1 @hw2 @hwk @hnm @qaF @quU)
  refine qaa qep.eq_1 ?_
  refine W_gc ?_
  refine wR0 500 [0,2,3,4,5,21,22,23,24] fX ?_
  refine wT @hd ?_
  refine wR0 600 [0,2,3,4,5,7,21,22,23] fX ?_
  refine wR0 700 [0,2,3,4,5,8,21,22,23] fX ?_
  refine wR0 800 [0,2,3,4,5,8,21,22,23] fX ?_
  refine wRn 900 [0,2,3,4,5,8,9,21,22,23] fX ?_
  refine rU [(99999,dcB d)] [(99999,dcB e)] fX ?_
  refine⟨_,hpk.fulD,rE fX ?_⟩
  refine wR0 1000 [0,2,3,4,5,8,9,10,21,22,23] fX ?_
  refine wL ?_
  refine hL _ ?_
  ·intro j
   refine wN ?_
   refine wR0 2500 [0,2,3,4,5,8,21,22,23] fX ?_
   simp only[thn]
   refine qbZ (l':=[(0,dcR),(2,.ref 0 2 0),(3,.ref 104 2 0),(4,.sl 200 2 0 0 nt),(5,.int .i64 (num+1+k+1)),(8,.ref 702 2 0),(21,.sl 200 2 0 0 nt),(22,.int .i64 (nt:Int)),(23,.int .i64 1)]) (hl':=prH1 z vals d'++[(702,.live ⟨88,[.str ⟨#[119,111,114,107]⟩,.list (qa7 (y::ys))]⟩),(2304,.dead)]) [99999,0,104,200,2604,702] (.cons (.same rfl) (.cons (.same rfl) (.cons (.same rfl) (.cons (.same rfl) (.cons (.same rfl) (.cons (.same rfl) (.cons (.same rfl) (.cons (.same rfl) (.cons (.same rfl) .nil))))))))) (.keep rfl (qe8 _) (.keep rfl (.liveS rfl (qcx rfl)) (.keep rfl (.liveS rfl (qcx rfl)) (.keep rfl (.liveS rfl (qcx rfl)) (.keep rfl (.liveS (qaJ _ z) (qcx rfl)) ((.keep rfl (SlotFz.liveL (.cons (.same rfl) (.cons (qto (y::ys) rfl rfl) .nil)) rfl) (.dead rfl (fun h=>by cases h) .nil)))))))) ?_
   simp only[prH1,List.cons_append,List.nil_append]
   refine wR0 2600 [0,2,3,4,5,21,22,23] fX ?_
   refine wR0 2700 [0,2,3,4,5,21,22,23] fX ?_
   refine wN ?_
   refine qay [99999,0,104,200,2604] (by simp[inL]) (by simp[inL,T.cl]) (by simp[qaf,inL,Slot.cl,T.cl,clL,qab,qaJ]) ?_
   simpa [qaf,inL,thC] using hQ
set_option maxHeartbeats 4000000 in
theorem pre1 (z:Th)(vals:Int)(num:Int)(d:Dc)(Q:IExit→(Nat→T)→Heap→Prop)(hQ:∀j:Int,Q (.exit 0) (ofL (prE 1 num j++[(24,.bool false)])) (hpL (prH1 z vals d))) :
 WL Tryz.prog 86 qep (ofL (prE 1 num 1)) (hpL (prH1 z vals d)) Q:=by
 have hd:decide ((1:Int)<((1:Nat):Int))=false:=by simp
 simp only[prE,prH1,List.cons_append,List.nil_append] at hQ ⊢
 have fX:=@hd
 refine qaa qep.eq_1 ?_
 refine wR0 500 [0,2,3,4,5,21,22,23,24] fX ?_
 refine wF @hd ?_
 refine wX ?_
 refine wN ?_
 exact hQ _
set_option maxHeartbeats 4000000 in
theorem pre2 (z w:Th)(vals:Int)(num:Int)(d:Dc)(Q:IExit→(Nat→T)→Heap→Prop)(hQ:∀j:Int,Q (.exit 0) (ofL (prE 2 num j++[(24,.bool false)])) (hpL (prH2 z w vals d))) :
 WL Tryz.prog 86 qep (ofL (prE 2 num 2)) (hpL (prH2 z w vals d)) Q:=by
 have hd:decide ((2:Int)<((2:Nat):Int))=false:=by simp
 simp only[prE,prH2,List.cons_append,List.nil_append] at hQ ⊢
 have fX:=@hd
 refine qaa qep.eq_1 ?_
 refine wR0 500 [0,2,3,4,5,21,22,23,24] fX ?_
 refine wF @hd ?_
 refine wX ?_
 refine wN ?_
 exact hQ _
end
section
open Go.RowKit
set_option maxHeartbeats 2000000
attribute [local simp] qau qav qaD qaJ qa1 qbo qaB qah qaT
set_option maxHeartbeats 8000000 in
theorem qeA (d:Dc)(hd:d.ok):TC Tryz.prog 10 [dcR] (hpL [(99999,dcB d)]) (qar (prD d).1) (hpL [(99999,dcB (prD d).2)]):=by
 have hp1:=qbN d hd 2 (by omega)
 have hr1:=qa6 hd (n:=2) (by omega)
 have hok1:=qaL hd 2
 have hp2:=qbN _ hok1 2 (by omega)
 have hr2:=qa6 hok1 (n:=2) (by omega)
 have hok2:=qaL hok1 2
 obtain⟨a,ha⟩:=Int.eq_ofNat_of_zero_le hr1.1
 have hw1:IntKind.wrap .i64 (1+(a:Int))=((1+a:Nat):Int):=by rw[wrap64 (by omega) (by omega)];simp
 have e0:(qao d 2).1.toNat=a:=by rw[ha];rfl
 have ha2:1≤1+a∧1+a≤2:=by omega
 rw[prD]
 simp only[e0]
 rw[ha] at hp1
 obtain⟨d1,hd1⟩:∃d1,(qao d 2).2=d1:=⟨_,rfl⟩
 rw[hd1] at hp1 hp2 hr2 hok1 hok2 ⊢
 obtain⟨d2,hd2⟩:∃d2,(qao d1 2).2=d2:=⟨_,rfl⟩
 rw[hd2] at hp2 hok2 ⊢
 have hb:(qao d1 2).1=0∨(qao d1 2).1=1:=by omega
 clear hr1 hr2 ha e0 hd1 hd2 hok1
 rcases hb with hb | hb
 ·rw[hb] at hp2 ⊢
  obtain⟨R,hR⟩:∃R,qby (1+a) 1 (cntD d2) (cntD d2) (1+1) (qao d2 3).2=R:=⟨_,rfl⟩
  obtain⟨L,d'⟩:=R
  have hth:thsD (1+a) (1+(0:Int).toNat) (tnm (0:Int).toNat) 1 d2=([⟨⟨#[109,97,105,110]⟩,L⟩],d'):=by
   show thsD (1+a) 1 [⟨#[109,97,105,110]⟩] 1 d2=_
   simp only[thsD,hR]
  rw[hth]
  have hL:=fun Q q=>pra (1+a) 1 ha2 (by omega) 1 (by omega) d2 hok2 L d' hR Q (pre1 _ _ _ d' Q q)
  have hw2:IntKind.wrap .i64 (1+0)=1:=rfl
  have hz2:(if 0=(1:Int).toNat then T.list [] else T.sl 200 2 0 0 ((1:Int).toNat - 0))=T.sl 200 2 0 0 1:=rfl
  have hr2':List.drop 1 (List.drop 1 (repl 2 [T.str ⟨#[]⟩]))=[]:=rfl
  simp only[prE,prH0,prH1,List.cons_append,List.nil_append] at hL
  have fX:=(cJ4 @hw1 @hw2 @hz2 @hr2')
  refine ql7 fn10 (by simp) ?_
  unfold i10
  simp only[argL]
  refine wR0 0 [0,2] fX ?_
  refine wRn 100 [0,2,3] fX ?_
  refine rU [(99999,dcB d)] [(99999,dcB d1)] fX ?_
  refine⟨_,hp1.fulD,rE fX ?_⟩
  refine wRn 200 [0,2,3,4] fX ?_
  refine rU [(99999,dcB d1)] [(99999,dcB d2)] fX ?_
  refine⟨_,hp2.fulD,rE fX ?_⟩
  refine wR0 300 [0,2,3,4,5] fX ?_
  refine wR0 400 [0,2,3,4,5,21,22,23] fX ?_
  refine wL ?_
  refine hL _ ?_
  ·intro j
   refine wN ?_
   refine wR0 2800 [2] fX ?_
   refine wE ?_
   refine wN ?_
   exact⟨by simp,_,_,_,rfl,rfl,Fz.aggL (.cons (.same rfl) (.cons (qtp [⟨⟨#[109,97,105,110]⟩,L⟩] rfl rfl) .nil)) rfl,.keep rfl (qe8 d') (.dead rfl (fun h=>by cases h) (.dead rfl (fun h=>by cases h) (.dead rfl (fun h=>by cases h) (.dead rfl (fun h=>by cases h) .nil)))),rfl⟩
 ·rw[hb] at hp2 ⊢
  obtain⟨R,hR⟩:∃R,qby (1+a) 2 (cntD d2) (cntD d2) (1+1) (qao d2 3).2=R:=⟨_,rfl⟩
  have hcr:=qgR hok2
  have hok':R.2.ok:=by
   rw[←hR]
   exact (qdG (vals:=1+a) (nt:=2) (n:=cntD d2) (by omega) (by omega) (by omega) (p:=⟨((1+a:Nat):Int),[default,default]⟩) rfl rfl (cntD d2) (1+1) (qao d2 3).2 (qaL hok2 3)).2.1
  obtain⟨L,d'⟩:=R
  obtain⟨R2,hR2⟩:∃R,qby (1+a) 2 (cntD d') (cntD d') (1+1+cntD d2+1+1) (qao d' 3).2=R:=⟨_,rfl⟩
  obtain⟨L2,d''⟩:=R2
  have hth:thsD (1+a) (1+(1:Int).toNat) (tnm (1:Int).toNat) 1 d2=([⟨⟨#[109,97,105,110]⟩,L⟩,⟨⟨#[119,111,114,107]⟩,L2⟩],d''):=by
   show thsD (1+a) 2 [⟨#[109,97,105,110]⟩,⟨#[119,111,114,107]⟩] 1 d2=_
   simp only[thsD,hR,hR2]
  rw[hth]
  have hL:=fun Q q=>pra (1+a) 2 ha2 (by omega) 1 (by omega) d2 hok2 L d' hR Q (prb ⟨⟨#[109,97,105,110]⟩,L⟩ (1+a) 2 ha2 rfl (1+1+cntD d2+1) (by omega) d' hok' L2 d'' hR2 Q (pre2 _ _ _ _ d'' Q q))
  have hw2:IntKind.wrap .i64 (1+1)=2:=rfl
  have hz2:(if 0=(2:Int).toNat then T.list [] else T.sl 200 2 0 0 ((2:Int).toNat - 0))=T.sl 200 2 0 0 2:=rfl
  have hr2':List.drop 1 (List.drop 1 (repl 2 [T.str ⟨#[]⟩]))=[]:=rfl
  simp only[prE,prH0,prH2,List.cons_append,List.nil_append] at hL
  have fX:=(cJ4 @hw1 @hw2 @hz2 @hr2')
  refine ql7 fn10 (by simp) ?_
  unfold i10
  simp only[argL]
  refine wR0 0 [0,2] fX ?_
  refine wRn 100 [0,2,3] fX ?_
  refine rU [(99999,dcB d)] [(99999,dcB d1)] fX ?_
  refine⟨_,hp1.fulD,rE fX ?_⟩
  refine wRn 200 [0,2,3,4] fX ?_
  refine rU [(99999,dcB d1)] [(99999,dcB d2)] fX ?_
  refine⟨_,hp2.fulD,rE fX ?_⟩
  refine wR0 300 [0,2,3,4,5] fX ?_
  refine wR0 400 [0,2,3,4,5,21,22,23] fX ?_
  refine wL ?_
  refine hL _ ?_
  ·intro j
   refine wN ?_
   refine wR0 2800 [2] fX ?_
   refine wE ?_
   refine wN ?_
   exact⟨by simp,_,_,_,rfl,rfl,Fz.aggL (.cons (.same rfl) (.cons (qtp [⟨⟨#[109,97,105,110]⟩,L⟩,⟨⟨#[119,111,114,107]⟩,L2⟩] rfl rfl) .nil)) rfl,.keep rfl (qe8 d'') (.dead rfl (fun h=>by cases h) (.dead rfl (fun h=>by cases h) (.dead rfl (fun h=>by cases h) (.dead rfl (fun h=>by cases h) .nil)))),rfl⟩
end
section
open Go.RowKit
theorem qnx {vals nt:Nat}(h1:0<vals)(h2:0<nt):∀(ss:List ByteArray) (num:Int) (d:Dc),d.ok→(∀s∈ss,s.size≤1000000)→∀t∈(thsD vals nt ss num d).1,t.lines.length≤3∧t.name.size≤1000000
 | [],_,_,_,_,t,ht=>by simp[thsD] at ht
 | s::ss,num,d,hd,hs,t,ht=>by
  have hc:=qgR hd
  rw[thsD] at ht
  simp only[List.mem_cons] at ht
  rcases ht with rfl | ht
  ·exact⟨by rw[qeZ];omega,hs _ (List.mem_cons_self ..)⟩
  ·exact qnx h1 h2 ss _ _ (qdG (vals:=vals) (nt:=nt) (n:=cntD d) h1 h2 (by omega) (p:=⟨(vals:Int),List.replicate nt default⟩) rfl (by simp) (cntD d) (num+1) (qao d 3).2 (qaL hd 3)).2.1 (fun x hx=>hs x (List.mem_cons_of_mem _ hx)) t ht
theorem qez {d:Dc}(h:d.ok):(prD d).1.fit:=by
 have h1:=qaL h 2
 have h2:=qaL h1 2
 have hn:∀b,∀s∈tnm b,s.size≤1000000:=fun b s hs=>by
  have:=List.mem_of_mem_take hs
  simp only[List.mem_cons,List.not_mem_nil,or_false] at this
  rcases this with rfl | rfl<;>exact (show (4:Nat)≤1000000 by omega)
 have hf:=qnx (vals:=1+(qao d 2).1.toNat) (nt:=1+(qao (qao d 2).2 2).1.toNat) (by omega) (by omega) (tnm (qao (qao d 2).2 2).1.toNat) 1 (qao (qao d 2).2 2).2 h2 (hn _)
 refine⟨?_,fun t ht=>Nat.le_trans (hf t ht).1 (by omega),fun t ht=>(hf t ht).2⟩
 show (thsD _ _ (tnm _) 1 _).1.length≤_
 rw[qka,tnm,List.length_take]
 simp only[List.length_cons,List.length_nil];omega
end
section
open Go.RowKit
set_option maxHeartbeats 2000000
attribute [local simp] qau qav qaD qaJ qa1 qah qaT qaO qak qax qc9 qaI
theorem StOk.vec {p:Pg}{B v:Int}{c:List Int}(h:StOk p B v c)(hB:B≤1048576):VecOk (plcs p).length c:=⟨h.len,fun j=>by have:=h.ent j;omega⟩
theorem StOk.finv {p:Pg}{B v:Int}{c:List Int}(h:StOk p B v c)(hB:B≤1048576):FinV c:=fun j=>by have:=h.ent j;omega
theorem qmS (p:Pg):(mdl p).states.length=p.vals.toNat:=by simp[mdl,qcI]
theorem StOk.valid {p:Pg}(hok:okP p=true)(hm:(mngs p).length≤12){B v:Int}{c:List Int}(h:StOk p B v c)(hB:B≤1048576):qdr (mdl p) (cfV v c)=true:=
 (qfM (qbq hok) hm).valid (by rw[qmS];have:=h.val;omega) (h.vec hB) (h.finv hB)
theorem qgi {p:Pg}(hok:okP p=true):0<(plcs p).length∧(plcs p).length≤6:=by
 have ho:=qbq hok
 refine⟨?_,by rw[qbh];exact ho.six⟩
 have h1:=(ho.thGet (i:=0) ho.pos)
 exact Nat.lt_of_le_of_lt (Nat.zero_le _) (qcS (p:=p) (i:=0) (k:=0) ⟨ho.pos,h1.pos⟩)
end
section
open Go.ChangeShapes
abbrev qet : List (String × DataW Unit) := [("math/bits.deBruijn32tab", Rows.laid_math_bits_deBruijn32tab), ("math/bits.deBruijn64tab", Rows.laid_math_bits_deBruijn64tab), ("internal/strconv.uint64pow10", Rows.laid_internal_strconv_uint64pow10), ("coverability/program.words", Rows.laid_coverability_program_words), ("coverability/program.reserved", Rows.laid_coverability_program_reserved)]
theorem qtq : Tryz.prog.globalNamed "coverability/program.words" = some 1 := by kernel_rfl
theorem gRes : Tryz.prog.globalNamed "coverability/program.reserved" = some 0 := by kernel_rfl
theorem tWords:(Tryz.prog.globals[1]?).map (·.type)=some 210:=by kernel_rfl
theorem tRes:(Tryz.prog.globals[0]?).map (·.type)=some 30:=by kernel_rfl
theorem qrs {s:ByteArray}{bs:List UInt8}(h:s.data.toList=bs):s=⟨bs.toArray⟩:=by
 cases s with
 | mk d=>cases d with
  | mk l=>simp only at h;rw[h]
theorem qeK {W:World}{m:Nat}{a b:Value}{y:DataW Unit×List MemPlace}{bs:List UInt8}{n:Int}
 (h:DataW.trod (fun _=>()) Tryz.prog W 0 (fun _=>true) false m 209 [a,b]=some y) (hy:y.1=.agg [.lit (.string bs),.lit (.int .i64 n)]):a=.string ⟨bs.toArray⟩∧b=.int .i64 n:=by
 obtain⟨y0,y1,k,rfl,_,h0,h1⟩:=trod_struct2 Tryz.underlying209 h
 have cS:Tryz.prog.cellsOf 9=1:=by kernel_rfl
 have cI:Tryz.prog.cellsOf 3=1:=by kernel_rfl
 simp only[cS,cI] at h0 h1
 have h0':DataW.trod (fun _=>()) Tryz.prog W 0 (fun _=>true) false k 9 [a]=some y0:=h0
 have h1':DataW.trod (fun _=>()) Tryz.prog W 0 (fun _=>true) false k 3 [b]=some y1:=h1
 obtain⟨s,e1,rfl,_⟩:=DataW.trod_string Tryz.underlying9 h0'
 obtain⟨z,e2,rfl,_⟩:=DataW.trod_int Tryz.underlying3 h1'
 simp only[DataW.agg.injEq,List.cons.injEq,DataW.lit.injEq,Lit.string.injEq,Lit.int.injEq,and_true,true_and] at hy
 simp only[List.cons.injEq,and_true] at e1 e2
 rw[e1,e2,hy.2,qrs hy.1]
 exact⟨rfl,rfl⟩
theorem list16 {α:Type}{l:List α}(h:l.length=16):∃a b c d e f g i j k m n o p q r,l=[a,b,c,d,e,f,g,i,j,k,m,n,o,p,q,r]:=by
 match l,h with
 | [a,b,c,d,e,f,g,i,j,k,m,n,o,p,q,r],_=>exact⟨_,_,_,_,_,_,_,_,_,_,_,_,_,_,_,_,rfl⟩
theorem qqn {W:World}{g:Nat}{us:List Value}{cs:List T}(hl:us.length=cs.length)(h1:Ones cs)(hc:∀p,p<us.length→W.cell? ⟨g,p,none⟩=some (us.getD p Go.undef))(hR:∀p,p<us.length→Rep W (staW W) (fun _=>0) (fun _=>.free) (us.getD p Go.undef) (cs.getD p .undef)) :
 Rep W (staW W) (fun _=>0) (fun _=>.free) (.pointer (some ⟨g,0,none⟩)) (.ptr cs):=by
 have ha:∀p,(⟨g,0,none⟩:Addr).add p=⟨g,p,none⟩:=fun p=>by
  simp only[Addr.add,Nat.zero_add]
  split
  ·rename_i e;rw[e]
  ·rfl
 refine .ptr _ cs (fun p=>us.getD p Go.undef) h1 (fun p hp=>?_) (fun p hp=>?_) (fun p hp=>hR p (by omega))
 ·have:=qco (hc p (by omega))
  exact this
 ·rw[ha];exact hc p (by omega)
theorem qjo {W:World}(h:laidMetH Tryz.prog qet W):qcp W (staW W):=by
 rw[MakeChecks.laidMetH_plain _ _ _ (by kernel_rfl)] at h
 obtain⟨ps,⟨g0,t0,cs0,f0,p0,q0,hg0,ht0,hv0,hd0,⟨g1,t1,cs1,f1,p1,q1,hg1,ht1,hv1,hd1,⟨g2,t2,cs2,f2,p2,q2,hg2,ht2,hv2,hd2,⟨g3,t3,cs3,f3,p3,q3,hg3,ht3,hv3,hd3,⟨g4,t4,cs4,f4,p4,q4,hg4,ht4,hv4,hd4,_,_⟩,_⟩,_⟩,_⟩,_⟩,_,_⟩:=h
 clear hg0 ht0 hv0 hd0 hg1 ht1 hv1 hd1 hg2 ht2 hv2 hd2
 obtain rfl:=Option.some.inj (qtq.symm.trans hg3)
 obtain rfl:=Option.some.inj (gRes.symm.trans hg4)
 obtain rfl:=Option.some.inj (tWords.symm.trans ht3)
 obtain rfl:=Option.some.inj (tRes.symm.trans ht4)
 have hw:Rep W (staW W) (fun _=>0) (fun _=>.free) (.pointer (some ⟨1,0,none⟩)) (.ptr [.str ⟨#[]⟩,.int .i64 0,.str ⟨#[115,101,116]⟩,.int .i64 1,.str ⟨#[119,104,101,110]⟩,.int .i64 1,.str ⟨#[106,117,109,112]⟩,.int .i64 2,.str ⟨#[109,97,121,98,101]⟩,.int .i64 2,.str ⟨#[115,112,97,119,110]⟩,.int .i64 3,.str ⟨#[115,116,111,112]⟩,.int .i64 0,.str ⟨#[102,97,105,108]⟩,.int .i64 0]):=by
  obtain⟨xs,m,rfl,hx,hlen,hn,hel⟩:=DataW.trod_array Tryz.underlying210 hd3
  have c1:Tryz.prog.cellsOf 209=2:=by kernel_rfl
  have c2:Tryz.prog.cellsOf 210=16:=by kernel_rfl
  rw[c2] at hlen
  rw[c1] at hel
  obtain⟨l⟩:=cs3
  obtain⟨a,b,c,d,e,f,g,i,j,k,n,o,p,q,r,s,rfl⟩:=list16 hlen
  simp only[Prod.mk.injEq] at hx
  match xs,hn,hx.1,hel with
  | [x0,x1,x2,x3,x4,x5,x6,x7],_,hx,hel=>
   simp only[List.map_cons,List.map_nil,DataW.agg.injEq,Rows.laid_coverability_program_words,List.cons.injEq,and_true] at hx
   obtain⟨e0,e1,e2,e3,e4,e5,e6,e7⟩:=hx
   obtain⟨rfl,rfl⟩:=qeK (hel 0 (by omega)) e0.symm
   obtain⟨rfl,rfl⟩:=qeK (hel 1 (by omega)) e1.symm
   obtain⟨rfl,rfl⟩:=qeK (hel 2 (by omega)) e2.symm
   obtain⟨rfl,rfl⟩:=qeK (hel 3 (by omega)) e3.symm
   obtain⟨rfl,rfl⟩:=qeK (hel 4 (by omega)) e4.symm
   obtain⟨rfl,rfl⟩:=qeK (hel 5 (by omega)) e5.symm
   obtain⟨rfl,rfl⟩:=qeK (hel 6 (by omega)) e6.symm
   obtain⟨rfl,rfl⟩:=qeK (hel 7 (by omega)) e7.symm
   refine qqn (us:=[.string ⟨#[]⟩,.int .i64 0,.string ⟨#[115,101,116]⟩,.int .i64 1,.string ⟨#[119,104,101,110]⟩,.int .i64 1,.string ⟨#[106,117,109,112]⟩,.int .i64 2,.string ⟨#[109,97,121,98,101]⟩,.int .i64 2,.string ⟨#[115,112,97,119,110]⟩,.int .i64 3,.string ⟨#[115,116,111,112]⟩,.int .i64 0,.string ⟨#[102,97,105,108]⟩,.int .i64 0]) rfl (fun c hc=>List.all_eq_true.1 (show (List.all _ T.one)=true from rfl) c hc) (fun p hp=>?_) (fun p hp=>?_)
   ·rw[World.var?_cell qtq hv3 p]
    rw[List.getD_eq_getElem?_getD]
    simp only[List.getElem?_toArray]
    rw[List.getElem?_eq_getElem hp];rfl
   ·have hp2:p<16:=hp
    have:p=0∨p=1∨p=2∨p=3∨p=4∨p=5∨p=6∨p=7∨p=8∨p=9∨p=10∨p=11∨p=12∨p=13∨p=14∨p=15:=by omega
    rcases this with rfl | rfl | rfl | rfl | rfl | rfl | rfl | rfl | rfl | rfl | rfl | rfl | rfl | rfl | rfl | rfl<;>first | exact .str _ | exact .int _ _
 have hr:Rep W (staW W) (fun _=>0) (fun _=>.free) (.pointer (some ⟨0,0,none⟩)) (.ptr [.list [.str ⟨#[118,97,108,117,101,115]⟩,.str ⟨#[116,104,114,101,97,100]⟩,.str ⟨#[101,110,100]⟩]]):=by
  have ce:Tryz.prog.cellsOf 9=1:=by kernel_rfl
  rcases open_strings Tryz.underlying30 Tryz.underlying9 ce hd4 with⟨_,hx⟩ | ⟨a,len,cap,ss,hcs,_,hl,hm,hsl,hx,hc,_⟩
  ·simp[Rows.laid_coverability_program_reserved] at hx
  ·have hsl2:ss.length=cap:=hsl
   simp only[Rows.laid_coverability_program_reserved,Prod.mk.injEq,DataW.slice.injEq,strs] at hx
   obtain⟨⟨hx1,hx2⟩,_⟩:=hx
   have h3:ss.take len=[⟨#[118,97,108,117,101,115]⟩,⟨#[116,104,114,101,97,100]⟩,⟨#[101,110,100]⟩]:=by
    have hl3:=congrArg List.length hx1
    simp only[List.length_map,List.length_cons,List.length_nil] at hl3
    match hq:ss.take len,hl3 with
    | [u,v,x],_=>
     rw[hq] at hx1
     simp only[List.map_cons,List.map_nil,List.cons.injEq,DataW.lit.injEq,Lit.string.injEq,and_true] at hx1
     obtain⟨h1,h2,h4⟩:=hx1
     rw[qrs h1.symm,qrs h2.symm,qrs h4.symm]
   have hlen:len=3:=by
    have:=congrArg List.length h3
    simp only[List.length_take,List.length_cons,List.length_nil] at this
    omega
   subst hlen
   obtain⟨u0⟩:=cs4
   have hcs':u0=[.slice (some a) 3 cap]:=hcs
   subst hcs'
   refine qqn (us:=[.slice (some a) 3 cap]) rfl (fun c hc=>List.all_eq_true.1 (show (List.all _ T.one)=true from rfl) c hc) (fun p hp=>?_) (fun p hp=>?_)
   ·rw[World.var?_cell gRes hv4 p]
    rw[List.getD_eq_getElem?_getD]
    simp only[List.getElem?_toArray]
    rw[List.getElem?_eq_getElem hp];rfl
   ·have hp0:p=0:=by simpa using hp
    subst hp0
    have hgs:∀p,p<3→ss.getD p ByteArray.empty=(ss.take 3).getD p ByteArray.empty:=fun p hp=>by
     rw[List.getD_eq_getElem?_getD,List.getD_eq_getElem?_getD,List.getElem?_take,if_pos hp]
    have hcell:∀p,p<3→W.cell? (a.add p)=some (.string ((ss.take 3).getD p ByteArray.empty)):=fun p hp=>by
     rw[←hgs p hp];exact hc p (by omega)
    rw[h3] at hcell
    exact Rep.list (w:=W) a cap 1 [.str ⟨#[118,97,108,117,101,115]⟩,.str ⟨#[116,104,114,101,97,100]⟩,.str ⟨#[101,110,100]⟩] (fun p=>.string (([⟨#[118,97,108,117,101,115]⟩,⟨#[116,104,114,101,97,100]⟩,⟨#[101,110,100]⟩]:List ByteArray).getD p ByteArray.empty))
     (fun y hy=>by
      simp only[List.mem_cons,List.not_mem_nil,or_false] at hy
      rcases hy with rfl | rfl | rfl<;>rfl) (by simp only[List.length_cons,List.length_nil];omega) (fun c hc=>List.all_eq_true.1 (show (List.all _ T.one)=true from rfl) c hc)
     (fun p hp=>by
      have:=qco (hcell p hp)
      rwa [qbl] at this) (fun p hp=>hcell p hp) (fun p hp=>by
      have hp3:p<3:=hp
      have:p=0∨p=1∨p=2:=by omega
      rcases this with rfl | rfl | rfl<;>exact .str _)
 intro e he
 simp only[qrY,List.mem_cons,List.not_mem_nil,or_false] at he
 rcases he with rfl | rfl
 ·exact hr
 ·exact hw
end
end Go.Proofs.YtkbjpglehdhjfaaGreatDoor
