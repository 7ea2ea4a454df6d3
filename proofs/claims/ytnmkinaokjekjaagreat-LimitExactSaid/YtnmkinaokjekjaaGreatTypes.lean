/- The slice types of this translation. -/
import Derived.Test.YtnmkinaokjekjaaGreatChecked
import Derived.Test.YtnmkinaokjekjaaGreatMem
namespace Go.Proofs.YtnmkinaokjekjaaGreat
theorem sl_int : SlT Tryz.prog 22 3 (.int .i64 0) 8 := ⟨Tryz.underlying22, by kernel_rfl, rfl, by omega⟩
theorem sl_rowsi : SlT Tryz.prog 23 22 (.slice none 0 0) 24 := ⟨Tryz.underlying23, by kernel_rfl, rfl, by omega⟩
end Go.Proofs.YtnmkinaokjekjaaGreat
