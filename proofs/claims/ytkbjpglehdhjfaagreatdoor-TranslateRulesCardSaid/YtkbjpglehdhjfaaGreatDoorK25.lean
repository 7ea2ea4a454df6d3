/- Contracts of functions of the program, for all arguments that they name. -/
import Derived.Test.YtkbjpglehdhjfaaGreatDoorK24
namespace Go.Proofs.YtkbjpglehdhjfaaGreatDoor
set_option linter.unusedVariables false
section
open Go.RowKit
set_option maxHeartbeats 2000000
def qef (id:Nat)(done:List Int):T:=match done with
 | []=>.nil
 | x::l=>.sl id (l.length+1) 0 0 (l.length+1)
def qee (id ty:Nat)(done:List Int):List (Nat×Slot):=match done with
 | []=>[]
 | x::l=>[(id,.live ⟨ty,qad (x::l)⟩)]
end
section
open Go.RowKit
set_option maxHeartbeats 2000000
attribute [local simp] qah qeV qak
def qb3:Nat→Int→Dc→List Int×Dc
 | 0,_,d=>([],d)
 | n+1,most,d=>((qao d (most+1)).1::(qb3 n most (qao d (most+1)).2).1,(qb3 n most (qao d (most+1)).2).2)
theorem qes:∀(n:Nat) (most:Int) (d:Dc),(qb3 n most d).1.length=n
 | 0,_,_=>rfl
 | n+1,most,d=>by rw[qb3,List.length_cons,qes n]
theorem qkH:∀(n:Nat) (most:Int) (d:Dc),d.ok→0≤most→∀x∈(qb3 n most d).1,0≤x∧x≤most
 | 0,_,_,_,_,x,hx=>by cases hx
 | n+1,most,d,h,hm,x,hx=>by
  rw[qb3] at hx
  rcases List.mem_cons.1 hx with rfl | hx
  ·have:=qa6 h (n:=most+1) (by omega);omega
  ·exact qkH n most _ (qaL h _) hm x hx
end
section
open Go.RowKit
set_option maxHeartbeats 2000000
attribute [local simp] qau qav qaD qaJ qa1 qah qaT qaO qak qax qc9 qaI
theorem qjX {p:Pg}{n:Nat}(hn:n=(plcs p).length){most:Int}(hmo:0≤most){v:Int}(hv:0≤v∧v<p.vals){d:Dc}(h:d.ok):StOk p most v (qb3 n most d).1:=by
 refine⟨hv,by rw[qes,hn],fun j=>?_⟩
 by_cases hj:j<(qb3 n most d).1.length
 ·rw[List.getD_eq_getElem?_getD,List.getElem?_eq_getElem hj,Option.getD_some]
  exact qkH n most d h hmo _ (List.getElem_mem hj)
 ·rw[qdY (by omega)];omega
end
end Go.Proofs.YtkbjpglehdhjfaaGreatDoor
