/- The slice types of this translation. -/
import Derived.Test.YtpnkaicbcbimaaaChecked
import Derived.Test.YtpnkaicbcbimaaaMem
namespace Go.Proofs.Ytpnkaicbcbimaaa
theorem sl_bool : SlT Try.prog 26 4 (.bool false) 1 := ⟨Try.underlying26, by kernel_rfl, rfl, by omega⟩
theorem sl_int : SlT Try.prog 22 3 (.int .i64 0) 8 := ⟨Try.underlying22, by kernel_rfl, rfl, by omega⟩
theorem sl_rowsb : SlT Try.prog 23 26 (.slice none 0 0) 24 := ⟨Try.underlying23, by kernel_rfl, rfl, by omega⟩


end Go.Proofs.Ytpnkaicbcbimaaa
