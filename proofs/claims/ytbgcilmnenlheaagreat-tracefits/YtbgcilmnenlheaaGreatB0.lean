/- Texts of this claim. -/
import Derived.Test.YtbgcilmnenlheaaGreatA9
import Derived.KernelRfl
import Derived.Test.YtbgcilmnenlheaaGreatProg
set_option linter.unusedSimpArgs false
set_option linter.unusedVariables false
namespace Go.Abs
open Go Go.Proofs
noncomputable section
noncomputable def E0 : Env Tryz.prog := Env.ofProg Tryz.prog
noncomputable def hm0 (f i : Nat) : Option Nat := bif Nat.beq f 162 && Nat.beq i 6 then some 8 else bif Nat.beq f 17 && Nat.beq i 6 then some 8 else none
noncomputable def codeAt : List Nat → Code → Code
  | [], c => c
  | 0 :: r, .seq a _ => codeAt r a
  | 1 :: r, .seq _ b => codeAt r b
  | 0 :: r, .cond _ a _ => codeAt r a
  | 1 :: r, .cond _ _ b => codeAt r b
  | 0 :: r, .block _ a => codeAt r a
  | 0 :: r, .loop a => codeAt r a
  | 0 :: r, .rangeFunc _ _ a _ => codeAt r a
  | 1 :: r, .rangeFunc _ _ _ b => codeAt r b
  | _, _ => .skip
noncomputable def bodyOf (f : Func) : Code := f.body.getD .skip
end
end Go.Abs
