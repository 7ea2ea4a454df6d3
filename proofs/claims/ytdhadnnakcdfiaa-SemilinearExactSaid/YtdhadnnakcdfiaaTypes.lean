/- The slice types of this translation. -/
import Derived.Test.YtdhadnnakcdfiaaChecked
import Derived.Test.YtdhadnnakcdfiaaMem
namespace Go.Proofs.Ytdhadnnakcdfiaa
theorem sl_int : SlT Try.prog 22 3 (.int .i64 0) 8 := ⟨Try.underlying22, by kernel_rfl, rfl, by omega⟩
theorem sl_rowsi : SlT Try.prog 27 22 (.slice none 0 0) 24 := ⟨Try.underlying27, by kernel_rfl, rfl, by omega⟩
end Go.Proofs.Ytdhadnnakcdfiaa
