/- Texts of this claim. -/
import Derived.Test.YtbgcilmnenlheaaGreatB1
import Derived.KernelRfl
set_option linter.unusedSimpArgs false
set_option linter.unusedVariables false
namespace Go.Abs
open Go Go.Proofs
theorem awake_runs : calOf (runC E0 (drOf E0 hm0) (xtOf xk0) 200) 4 [] ⟨.e, 0, 0⟩ (fun v _ => vBool v (fun b => b) false) = true := by kernel_rfl
end Go.Abs
