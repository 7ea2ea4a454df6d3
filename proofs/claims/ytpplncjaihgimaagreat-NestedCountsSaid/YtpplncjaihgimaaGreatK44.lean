/- Contracts of functions of the program, for all arguments that they name. -/
import Derived.Test.YtpplncjaihgimaaGreatK39
import Derived.Test.YtpplncjaihgimaaGreatK40
namespace Go.Proofs.YtpplncjaihgimaaGreat
set_option linter.unusedVariables false
section
open Go.RowKit
theorem smp_4 {m:Md}(hk:m.kind=4):qh3 (qau m):=by
 rw[qe5 hk]
 by_cases h:m.levels > 1<;>simp[qaZ,qaK,qa3,qcq,qh3,qn1,h]
theorem qkc {m:Md}(g:Gmd m){s:Int}{l:List Nd}(o:OkN m s l)(d:Dk)(hd:d.ok):∃(l':List Nd) (d':Dk),OkN m s l'∧subN l l'∧d'.ok∧
 TC Tryz.prog 23 [dkR,qax m,encN m s l] (hpL [(99999,dkB d)]) (encN m s l') (hpL [(99999,dkB d')]):=by
 have hk:=g.tm.kind
 have hsh:∀v,qaR (qau m) v=true→∃s xs,v=cfB s xs∧xs.length≤1000:=fun v hv=>by
  obtain⟨s,l,rfl,o⟩:=qnC g hv
  exact⟨s,bN m l,rfl,by have:=o.len;simp;omega⟩
 obtain⟨z,d',hzf,hz,hok,h⟩:=qr0 g.fit (.inl hk) g.tm.typeF (qgI _ hk) (typedM_fit' g.fit) g.ty4 (smp_4 hk) hsh s (bN m l) o.fit (by have:=o.len;simp;omega) d hd
 rcases hz with rfl | hz
 ·exact⟨l,d',o,subN.refl l,hok,h⟩
 ·obtain⟨s',l',rfl,o'⟩:=qnC g hz.2.1
  obtain⟨rfl,hs⟩:=(qmE hk s s' o.leaf o'.leaf).1 hz.2.2
  exact⟨l',d',o',hs,hok,h⟩
end
end Go.Proofs.YtpplncjaihgimaaGreat
