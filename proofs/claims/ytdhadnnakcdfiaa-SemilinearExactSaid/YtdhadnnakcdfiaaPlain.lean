/- Plain words on functions and lists. No program in sight. -/
namespace Go.Proofs.Ytdhadnnakcdfiaa

def upd {α : Type} (f : Nat → α) (j : Nat) (v : α) : Nat → α := fun k => if k = j then v else f k
theorem upd_same {α : Type} (f : Nat → α) (j : Nat) (v : α) : upd f j v j = v := by simp [upd]
theorem upd_ne {α : Type} (f : Nat → α) {j k : Nat} (v : α) (h : k ≠ j) : upd f j v k = f k := by simp [upd, h]


end Go.Proofs.Ytdhadnnakcdfiaa
