/- Texts of this claim. -/
import Derived.Test.YtbgcilmnenlheaaGreatB0
set_option linter.unusedSimpArgs false
set_option linter.unusedVariables false
namespace Go.Abs
open Go Go.Proofs
noncomputable def xk0 (f : FuncId) : Option XK := match f with
  | 79 => some (.add .i64) | 218 => some (.add .i32) | 108 => some (.load .i64) | 158 => some (.load .u32) | 181 => some .store | 213 => some (.cas .i32) | 212 => some (.mark0 .disable) | 214 => some (.mark0 .enable) | 215 => some (.markAt .acquire) | 217 => some (.markAt .releaseMerge) | 99 => some .add64
  | _ => none
theorem xfit0 : XFit Tryz.prog xk0 := by
  intro f k h
  unfold xk0 at h
  split at h
  · cases h; exact ⟨_, Tryz.func79, by kernel_rfl, by kernel_rfl, by kernel_rfl, by kernel_rfl⟩
  · cases h; exact ⟨_, Tryz.func218, by kernel_rfl, by kernel_rfl, by kernel_rfl, by kernel_rfl⟩
  · cases h; exact ⟨_, Tryz.func108, by kernel_rfl, by kernel_rfl, by kernel_rfl, by kernel_rfl⟩
  · cases h; exact ⟨_, Tryz.func158, by kernel_rfl, by kernel_rfl, by kernel_rfl, by kernel_rfl⟩
  · cases h; exact ⟨_, Tryz.func181, by kernel_rfl, by kernel_rfl, by kernel_rfl, by kernel_rfl⟩
  · cases h; exact ⟨_, Tryz.func213, by kernel_rfl, by kernel_rfl, by kernel_rfl, by kernel_rfl⟩
  · cases h; exact ⟨_, Tryz.func212, by kernel_rfl, by kernel_rfl, by kernel_rfl, by kernel_rfl⟩
  · cases h; exact ⟨_, Tryz.func214, by kernel_rfl, by kernel_rfl, by kernel_rfl, by kernel_rfl⟩
  · cases h; exact ⟨_, Tryz.func215, by kernel_rfl, by kernel_rfl, by kernel_rfl, by kernel_rfl⟩
  · cases h; exact ⟨_, Tryz.func217, by kernel_rfl, by kernel_rfl, by kernel_rfl, by kernel_rfl⟩
  · cases h; exact ⟨_, Tryz.func99, by kernel_rfl, by kernel_rfl, by kernel_rfl, by kernel_rfl⟩
  · cases h
/-- Functions with bodies are entered. -/
theorem hcall0 : ∀ f d c, E0.fns f = some d → d.body = some c → ∀ args w, (callFunc f args).run Tryz.prog w = .ok (.enter f args) w := by
  have key : (Tryz.prog.funcs.toList.all fun fn => fn.body.isNone || !(fn.name == "runtime.NumGoroutine")) = true := by kernel_rfl
  intro f d c hf hb args w
  have hf' : Tryz.prog.funcs[f]? = some d := hf
  rw [List.all_eq_true] at key
  have hm : d ∈ Tryz.prog.funcs.toList := by
    have := Array.getElem?_eq_some_iff.1 hf'
    obtain ⟨h1, h2⟩ := this
    rw [← h2]; simp
  have := key d hm
  rw [hb] at this
  have hne : d.name ≠ "runtime.NumGoroutine" := by simpa using this
  simp [callFunc, hf', hne, hb]
end Go.Abs
