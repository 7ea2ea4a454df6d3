/- Facts of an older world, used in a later one: the steps between are found by instances. -/
import Derived.Test.YtdhadnnakcdfiaaRep
namespace Go.Proofs.Ytdhadnnakcdfiaa
set_option linter.unusedVariables false
open Go.RowKit

/-- World c comes from world b by one step that writes to blocks of the list at most. -/
class KB (l : List Nat) (c : World) (b : outParam World) : Prop where
  out : Keeps l b c
/-- World c comes from world a by steps that write to blocks of the list at most. -/
class KF (l : List Nat) (a c : World) : Prop where
  out : Keeps l a c
instance KF.refl_ (l : List Nat) (a : World) : KF l a a := ⟨Keeps.refl l a⟩
instance KF.step_ (l : List Nat) (a b c : World) [s : KB l c b] [k : KF l a b] : KF l a c := ⟨k.out.trans s.out⟩
instance KB.alloc_ (l : List Nat) (w : World) (o : Obj) : KB l (w.alloc o) w := ⟨(Keeps.refl l w).alloc o⟩
instance KB.drew_ (l : List Nat) (w : World) : KB l w.drew w := ⟨(Keeps.refl l w).drew⟩
instance KB.drewN_ (l : List Nat) (w : World) (n : Nat) : KB l (w.drewN n) w := ⟨(Keeps.refl l w).drewN n⟩
theorem KB.mk0 {l : List Nat} {b c : World} (k : Keeps [] b c) : KB l c b := ⟨k.nil l⟩
theorem kf (l : List Nat) (a c : World) [k : KF l a c] : Keeps l a c := k.out

section
variable {a c : World} {l : List Nat} {v : Value}
theorem Rok.now {α : Type} {R : Rp α} [Rok R] {x : α} (h : R a l v x) [k : KF l a c] : R c l v x := Rok.keeps h k.out
theorem IsI.now {x : List Int} (h : IsI a l v x) [k : KF l a c] : IsI c l v x := Rok.keeps h k.out
theorem IsII.now {x : List (List Int)} (h : IsII a l v x) [k : KF l a c] : IsII c l v x := Rok.keeps h k.out
theorem RdL.now {A : Option Addr} {n : Nat} {f : Nat → Value} (h : RdL a l A n f) [k : KF l a c] : RdL c l A n f := h.keeps k.out
theorem cell_now (l : List Nat) {p : Addr} {u : Value} (h : a.cell? p = some u) (hp : p.block ∉ l) [k : KF l a c] : c.cell? p = some u := k.out.read h hp
theorem lts_now (l : List Nat) (h : ∀ x ∈ l, x < a.heap.size) [k : KF l a c] : ∀ x ∈ l, x < c.heap.size := fun x hx => Nat.lt_of_lt_of_le (h x hx) k.out.size
end

/-- A slice that is returned, and what it reads as; nothing that there was is written. -/
def RetL {α : Type} (R : Rp α) (d : α) (l : List Nat) (xs : List α) (w : World) (e : Ending) (w' : World) : Prop :=
  ∃ A c, e = .returned (.slice A xs.length c) ∧ IsL R d w' l (.slice A xs.length c) xs ∧ Keeps [] w w'
/-- A slice that is returned, the call's own. -/
def RetO {α : Type} (R : Rp α) (d : α) (ty : TypeId) (l : List Nat) (xs : List α) (w : World) (e : Ending) (w' : World) : Prop :=
  ∃ A c, e = .returned (.slice A xs.length c) ∧ OwL R d ty w.heap.size w' l (.slice A xs.length c) xs ∧ Keeps [] w w'
def RetB (b : Bool) (w : World) (e : Ending) (w' : World) : Prop := e = .returned (.bool b) ∧ Keeps [] w w'
def RetN (n : Int) (w : World) (e : Ending) (w' : World) : Prop := e = .returned (.int .i64 n) ∧ Keeps [] w w'
end Go.Proofs.Ytdhadnnakcdfiaa
