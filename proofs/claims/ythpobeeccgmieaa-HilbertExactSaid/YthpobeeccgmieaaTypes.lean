/- The slice types of this translation. -/
import Derived.Test.YthpobeeccgmieaaChecked
import Derived.Test.YthpobeeccgmieaaMem
namespace Go.Proofs.Ythpobeeccgmieaa
theorem sl_int : SlT Try.prog 22 3 (.int .i64 0) 8 := ⟨Try.underlying22, by kernel_rfl, rfl, by omega⟩
theorem sl_rowsi : SlT Try.prog 23 22 (.slice none 0 0) 24 := ⟨Try.underlying23, by kernel_rfl, rfl, by omega⟩
end Go.Proofs.Ythpobeeccgmieaa
