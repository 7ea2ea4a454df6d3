/- Contracts of functions of the program, for all arguments that they name. -/
import Derived.Test.YtpplncjaihgimaaGreatK30
import Derived.Test.YtpplncjaihgimaaGreatK35
namespace Go.Proofs.YtpplncjaihgimaaGreat
set_option linter.unusedVariables false
section
open Go.RowKit
set_option maxHeartbeats 2000000
theorem qf7 (a:UInt8):(⟨#[a]⟩:ByteArray).toList=[a]:=by
 simp[ByteArray.toList,ByteArray.toList.loop,ByteArray.size,ByteArray.get!]
theorem qik:(⟨#[]⟩:ByteArray).toList=[]:=by
 simp[ByteArray.toList,ByteArray.toList.loop,ByteArray.size]
theorem qtI (a:UInt8)(h:letB (a.toNat:Int)=true):qfa ⟨#[a]⟩=true:=by
 have e0:qbP ⟨#[a]⟩ 0=(a.toNat:Int):=rfl
 have hs:(⟨#[a]⟩:ByteArray).size=1:=rfl
 have hr:runN ⟨#[a]⟩ 1 0=1:=by simp[runN,e0,qie,h]
 rw[qfa,qf7,qik,hs,e0,h,hr]
 rfl
theorem kw1 (a:UInt8):kwS ⟨#[a]⟩=false:=by
 rw[kwS,inS,List.any_eq_false]
 intro k hk
 have hl:k.toList.length≠1:=by
  simp only[kws,List.mem_cons,List.not_mem_nil,or_false] at hk
  rcases hk with rfl | rfl | rfl | rfl | rfl | rfl | rfl | rfl | rfl | rfl | rfl | rfl | rfl | rfl | rfl | rfl | rfl | rfl<;>simp[ByteArray.toList,ByteArray.toList.loop,ByteArray.size,ByteArray.get!]
 rw[qf7]
 intro h
 have:=beq_iff_eq.1 h
 rw[←this] at hl
 simp at hl
def rA:Rl:=⟨⟨#[114]⟩,0,0,[],[],[],0,0,0,[0],[0,1],[],[],0⟩
def mA:Md:=⟨4,[⟨#[113]⟩],[],[⟨#[97]⟩,⟨#[98]⟩],[],2,0,[rA],cfgN 2 0 [⟨0,[]⟩]⟩
theorem qqF (ks:List Int)(h:ks=[]∨ks=[1]):OkN mA 0 [⟨0,ks⟩]:=by
 rcases h with rfl | rfl
 ·exact⟨by decide,by decide,by decide,fun x hx=>by rw[List.mem_singleton] at hx;subst hx;simp[ndOk,mA],List.pairwise_singleton ..,by decide⟩
 ·exact⟨by decide,by decide,by decide,fun x hx=>by rw[List.mem_singleton] at hx;subst hx;simp[ndOk,mA],List.pairwise_singleton ..,by decide⟩
theorem qt2:mA.fit:=by
 refine⟨by simp[mA],by simp[mA],by simp[mA],by simp[mA],by simp[mA],fun r hr=>?_,(qqF [] (.inl rfl)).fit,fun s hs=>?_,(by show kindOk 4;unfold kindOk;first | trivial | omega)⟩
 ·simp only[mA,List.mem_singleton] at hr
  subst hr
  exact⟨by simp[rA],by simp[rA],by simp[rA],by simp[rA],by simp[rA],by simp[rA],by simp[rA],by simp[rA,ByteArray.size]⟩
 ·simp only[mA,List.mem_append,List.mem_cons,List.not_mem_nil,or_false] at hs
  rcases hs with rfl | rfl | rfl<;>simp[ByteArray.size]
theorem qjF:qaM mA=0:=by
 have h1:btw mA.kind 1 6=true:=rfl
 have h2:qa9 mA=true:=rfl
 have h3:qcO mA=true:=rfl
 have h4:qec mA=true:=by
  have e:qbh mA=[⟨#[113]⟩,⟨#[97]⟩,⟨#[98]⟩,⟨#[114]⟩]:=rfl
  rw[qec,e]
  simp[newS,qtI 113 rfl,qtI 97 rfl,qtI 98 rfl,qtI 114 rfl,kw1,inS]
 have h5:qbF mA rA=true:=by
  have e:qkZ mA.kind rA=rA:=rfl
  rw[qbF,e,qpa]
  simp only[qgn,qhZ,beq_self_eq_true,Bool.and_true]
  rfl
 have h6:qbo mA=true:=by
  rw[qbo,if_neg (by decide),qaR,Bool.and_eq_true,Bool.and_eq_true]
  have o:=qqF [] (.inl rfl)
  refine⟨⟨rfl,decide_eq_true o.size⟩,?_⟩
  exact (qqL rfl _).2 ⟨0,[⟨0,[]⟩],rfl,o.s0,o.s1,o.len,o.nd,o.asc⟩
 have h7:(mA.rules.any fun r=>!qbF mA r)=false:=by
  show ([rA].any fun r=>!qbF mA r)=false
  simp[h5]
 rw[qaM,h1,h2,h3,h4,h7,h6]
 rfl
theorem qsN:qa7 mA (qaA mA 0) 0 [⟨0,[]⟩]=([cfgN 2 0 [⟨0,[1]⟩]],0):=by
 have hr:qaA mA 0=rA:=rfl
 have hp:qa4 [⟨0,[]⟩] rA.path=[[0]]:=rfl
 have ho:outN mA rA [⟨0,[]⟩] [0]=(cfgN 2 0 [⟨0,[1]⟩],0):=by
  have e:qaO [⟨0,[]⟩] [0] rA.next=[⟨0,[1]⟩]:=rfl
  rw[outN,e,qpG]
  exact (qda rfl qjF (qqF [1] (.inr rfl)) 0 (by decide) (by decide)).1
 rw[hr,qa7,if_neg (by decide),hp]
 simp only[List.any_cons,List.any_nil,List.map_cons,List.map_nil,ho]
 rfl
set_option maxHeartbeats 20000000 in
theorem qbj:TP Tryz.prog 8 [] (.bool true):=by
 have h2:=qdE mA qt2 rfl qjF 0 (by decide) (qqF [] (.inl rfl))
 have h3:=qcG mA qt2 rfl qjF (qqF [] (.inl rfl)) [0] (by decide)
 have hc3:cntF [⟨0,[]⟩] [0]=1:=rfl
 have e9:qa7 mA (qaA mA ((0:Nat):Int)) 0 [⟨0,[]⟩]=_:=qsN
 rw[e9,show (((0:Nat):Int))=(0:Int) from rfl] at h2
 rw[hc3,show (((1:Nat):Int))=(1:Int) from rfl] at h3
 have e0:cfgN mA.levels 0 [⟨0,[]⟩]=.mk 0 [.mk 0 [],.mk 0 [.mk 0 [.mk 0 [],.mk 0 []]]]:=rfl
 have e1:cfgN 2 0 [⟨0,[1]⟩]=.mk 0 [.mk 0 [],.mk 0 [.mk 0 [.mk 0 [],.mk 0 [.mk 1 []]]]]:=rfl
 rw[e0] at h2 h3
 simp only[e1,encV,qac,qab,List.map_cons,List.map_nil] at h2 h3
 have z1:∀a b:T,(1:Int)<(([a,b]:List T).length:Int):=fun a b=>by simp
 have z0:∀a:T,(0:Int)<(([a]:List T).length:Int):=fun a=>by simp
 have g1:∀a b:T,([a,b]:List T).getD (1:Int).toNat .undef=b:=fun a b=>rfl
 have g0:∀a:T,([a]:List T).getD (0:Int).toNat .undef=a:=fun a=>rfl
 have f109:∀(H:Heap) (D:Nat→Bool),H 109=.live ⟨25,[.int .i64 0,.nil,.int .i64 0,.nil]⟩→D 109=false→Fz H D (.sl 109 4 2 0 2) (.list [encV (.mk 0 []),encV (.mk 0 [])]):=fun H D h hd=>.slL h hd rfl rfl rfl rfl rfl (.cons (.same rfl) (.cons .nil (.cons (.same rfl) (.cons .nil .nil))))
 have f111:∀(H:Heap) (D:Nat→Bool),H 111=.live ⟨25,[.int .i64 0,.sl 109 4 2 0 2]⟩→D 111=false→H 109=.live ⟨25,[.int .i64 0,.nil,.int .i64 0,.nil]⟩→D 109=false→Fz H D (.sl 111 2 2 0 1) (.list [encV (.mk 0 [.mk 0 [],.mk 0 []])]):=fun H D h hd h' hd'=>.slL h hd rfl rfl rfl rfl rfl (.cons (.same rfl) (.cons (f109 H D h' hd') .nil))
 have f113:∀(H:Heap) (D:Nat→Bool),H 113=.live ⟨25,[.int .i64 0,.nil,.int .i64 0,.sl 111 2 2 0 1]⟩→D 113=false→H 111=.live ⟨25,[.int .i64 0,.sl 109 4 2 0 2]⟩→D 111=false→H 109=.live ⟨25,[.int .i64 0,.nil,.int .i64 0,.nil]⟩→D 109=false→Fz H D (.sl 113 4 2 0 2) (.list [encV (.mk 0 []),encV (.mk 0 [.mk 0 [.mk 0 [],.mk 0 []]])]):=fun H D h hd h2 hd2 h0 hd0=>.slL h hd rfl rfl rfl rfl rfl (.cons (.same rfl) (.cons .nil (.cons (.same rfl) (.cons (f111 H D h2 hd2 h0 hd0) .nil))))
 have fS:∀(i:Nat) (c:UInt8) (H:Heap) (D:Nat→Bool),H i=.live ⟨9,[.str ⟨#[c]⟩]⟩→D i=false→Fz H D (.sl i 1 0 0 1) (.list [.str ⟨#[c]⟩]):=fun i c H D h hd=>.slL h hd rfl rfl rfl rfl rfl (.cons (.same rfl) .nil)
 have fS2:∀(i:Nat) (c c':UInt8) (H:Heap) (D:Nat→Bool),H i=.live ⟨9,[.str ⟨#[c]⟩,.str ⟨#[c']⟩]⟩→D i=false→Fz H D (.sl i 2 0 0 2) (.list [.str ⟨#[c]⟩,.str ⟨#[c']⟩]):=fun i c c' H D h hd=>.slL h hd rfl rfl rfl rfl rfl (.cons (.same rfl) (.cons (.same rfl) .nil))
 have f105:∀(H:Heap) (D:Nat→Bool),H 105=.live ⟨57,[.str ⟨#[114]⟩,.int .i64 0,.int .i64 0,.nil,.nil,.nil,.int .i64 0,.int .i64 0,.int .i64 0,.sl 102 1 0 0 1,.sl 103 2 0 0 2,.nil,.nil,.int .i64 0]⟩→D 105=false→H 102=.live ⟨3,[.int .i64 0]⟩→D 102=false→H 103=.live ⟨3,[.int .i64 0,.int .i64 1]⟩→D 103=false→Fz H D (.sl 105 14 14 0 1) (.list (qaN [rA])):=fun H D h hd h3 hd3 h4 hd4=>.slL h hd rfl rfl rfl rfl rfl (.cons (.same rfl) (.cons (.same rfl) (.cons (.same rfl) (.cons .nil (.cons .nil (.cons .nil (.cons (.same rfl) (.cons (.same rfl) (.cons (.same rfl) (.cons (qdp [0] h3 hd3 rfl rfl) (.cons (qdp [0,1] h4 hd4 rfl rfl) (.cons .nil (.cons .nil (.cons (.same rfl) .nil))))))))))))))
 have fX:=(cJ8 @qaI @qcp @qdj.eq_1 @qdj.eq_2 @eqT.eq_1 @eqT.eq_2 @z1 (cJ3 @z0 @g1 @g0))
 refine qan fn8 (by simp) ?_
 unfold i8
 simp only[argL]
 refine wR0 0 [] fX ?_
 refine wR0 100 [1] fX ?_
 simp only[thn]
 refine qbW (l':=[(1,.ref 116 10 0)]) (hl':=[(100,.dead),(101,.dead),(102,.dead),(103,.dead),(105,.dead),(109,.dead),(111,.dead),(113,.dead),(116,.live ⟨34,mdC mA⟩)]) [116] (.cons (.same rfl) .nil) (.dead rfl (fun h=>by cases h) (.dead rfl (fun h=>by cases h) (.dead rfl (fun h=>by cases h) (.dead rfl (fun h=>by cases h) (.dead rfl (fun h=>by cases h) (.dead rfl (fun h=>by cases h) (.dead rfl (fun h=>by cases h) (.dead rfl (fun h=>by cases h) (.keep rfl (.liveL (cs':=mdC mA) (.cons (.same rfl) (.cons (fS 100 113 _ _ rfl rfl) (.cons .nil (.cons (fS2 101 97 98 _ _ rfl rfl) (.cons .nil (.cons (.same rfl) (.cons (.same rfl) (.cons (f105 _ _ rfl rfl rfl rfl rfl rfl) (.cons (.same rfl) (.cons (f113 _ _ rfl rfl rfl rfl rfl rfl) .nil)))))))))) rfl) .nil))))))))) ?_
 simp only[mdC,mA,qas,List.map_cons,List.map_nil,qaN,qbK,rlC,rA,qab,qbM,V.n,V.kids]
 refine wRn 200 [1,2,3] fX ?_
 refine rC fX ?_
 refine⟨_,h2,rE fX ?_⟩
 refine wRn 300 [2,3,4,5] fX ?_
 refine rL [(303,.live ⟨3,[.int .i64 0]⟩)] fX ?_
 refine⟨_,_,h3,(by (exact .cons (.same (by simp[T.cl,clL])) (.cons (.same (by simp[T.cl,clL])) (.cons (qb0 [0] rfl rfl rfl) .nil)))),rfl,rE fX ?_⟩
 refine wR0 400 [0] fX ?_
 refine wP ?_
 exact .same rfl
end
end Go.Proofs.YtpplncjaihgimaaGreat
