/- TraceFits: whatever the records and the events, the law returns true: the program and the reference reckon alike whether all events stand where they may. No condition: it is proved for every input. -/
import Derived.Test.YtbgcilmnenlheaaGreatRows
import Derived.Test.YtbgcilmnenlheaaGreatD4
import Derived.WalkKit
import Derived.ProofKit
import Derived.OpenShut
set_option linter.unusedSimpArgs false
set_option linter.unusedVariables false
set_option linter.unusedSimpArgs false
set_option linter.unusedVariables false
namespace Go.Proofs.YtbgcilmnenlheaaGreat.traceFits
open Go.ChangeShapes Go.WideShapes Go.ChangeAt Go.RowKit

theorem own : ownKnob Tryz.prog.godebug = none := by kernel_rfl
theorem laidOut : laidOutB Tryz.prog = true := by kernel_rfl

/-- The number in a cell. -/
def intOf : Value → Int
  | .int _ n => n
  | _ => 0
noncomputable def ks0 (j : Nat) : TypeDesc := (Go.Abs.kindAt Tryz.prog 6 53 j).getD .bool
noncomputable def ks1 (j : Nat) : TypeDesc := (Go.Abs.kindAt Tryz.prog 6 54 j).getD .bool
theorem hks0 (j : Nat) (h : j < 14) : Go.Abs.kindAt Tryz.prog 6 53 j = some (ks0 j) := by
  have key : ((List.range 14).all fun j => (Go.Abs.kindAt Tryz.prog 6 53 j).isSome) = true := by kernel_rfl
  obtain ⟨d, hd⟩ := Option.isSome_iff_exists.1 (List.all_eq_true.1 key j (List.mem_range.2 h))
  unfold ks0
  rw [hd]; rfl
theorem hks1 (j : Nat) (h : j < 3) : Go.Abs.kindAt Tryz.prog 6 54 j = some (ks1 j) := by
  have key : ((List.range 3).all fun j => (Go.Abs.kindAt Tryz.prog 6 54 j).isSome) = true := by kernel_rfl
  obtain ⟨d, hd⟩ := Option.isSome_iff_exists.1 (List.all_eq_true.1 key j (List.mem_range.2 h))
  unfold ks1
  rw [hd]; rfl
theorem cs0 : Tryz.prog.cellsOf 53 = 14 := by kernel_rfl
theorem cs1 : Tryz.prog.cellsOf 54 = 3 := by kernel_rfl
theorem un0 : Tryz.prog.underlying 22 = some (.slice 53) := Tryz.underlying22
theorem un1 : Tryz.prog.underlying 23 = some (.slice 54) := Tryz.underlying23
theorem bd0 : Tryz.f3.body.isSome = true := by kernel_rfl
theorem ev0 : ks1 0 = .int .i64 := by kernel_rfl
theorem ev1 : ks1 1 = .int .i64 := by kernel_rfl
theorem ev2 : ks1 2 = .int .i64 := by kernel_rfl
theorem rc0 : ks0 0 = .int .i64 := by kernel_rfl
theorem rc12 : ks0 12 = .int .i64 := by kernel_rfl
theorem rc13 : ks0 13 = .int .i64 := by kernel_rfl
theorem fits_int {d : TypeDesc} {v : Value} (hd : d = .int .i64) (h : Go.Abs.fits d v) : v = Go.Abs.iv (intOf v) ∧ intOf v < 9223372036854775808 := by
  subst hd
  obtain ⟨n, rfl, hw⟩ := h
  refine ⟨rfl, ?_⟩
  have e : (decide (IntKind.i64.min ≤ n) && decide (n ≤ IntKind.i64.max)) = true := hw
  simp only [Bool.and_eq_true, decide_eq_true_eq] at e
  have : n ≤ 9223372036854775807 := e.2
  show n < 9223372036854775808
  omega
theorem fits_one {d : TypeDesc} {v : Value} (h : Go.Abs.fits d v) : v.oneCell' = true := by
  unfold Go.Abs.fits at h
  split at h
  · obtain ⟨b, rfl⟩ := h; rfl
  · obtain ⟨n, rfl, _⟩ := h; rfl
  · obtain ⟨s, rfl, _⟩ := h; rfl
  · cases h

/-! ### STEP 1: THE WALK -/
set_option maxRecDepth 100000 in
theorem walk {H : Type} {enc : TypeId × Value → H} {W : World} {bs : Nat} {v0 v1 : Value} {d0 d1 : DataW H} {p0 p1 : List MemPlace} (hv0 : Value.okWide Tryz.prog W .any bs 22 v0) (hv1 : Value.okWide Tryz.prog W .any bs 23 v1)
    (h0 : DataW.Trod enc Tryz.prog W 0 (fun _ => true) true 22 v0 d0 p0) (h1 : DataW.Trod enc Tryz.prog W 0 (fun _ => true) true 23 v1 d1 p1) :
    Calls Tryz.prog 3 #[v0, v1] W fun e w' => e = .returned (.bool true) ∧ Grown W w' ∧ Below W.heap.size W w' := by
  obtain ⟨L0, n0, c0, a0⟩ := @Go.Abs.arg_of Tryz.prog H enc W 22 53 un0 14 cs0 (by decide) ks0 6 hks0 v0 bs hv0 d0 p0 h0
  obtain ⟨L1, n1, c1, a1⟩ := @Go.Abs.arg_of Tryz.prog H enc W 23 54 un1 3 cs1 (by decide) ks1 6 hks1 v1 bs hv1 d1 p1 h1
  obtain ⟨b0, r0, hb0, hc0⟩ := a0.rel [] L1
  obtain ⟨b1, r1, hb1, hc1⟩ := a1.rel L0 []
  simp only [List.nil_append, List.append_nil, List.length_nil] at r0 hb0 hc0 r1 hb1 hc1
  have kv : ∀ k j, k < n1 → j < 3 → c1 k j = Go.Abs.iv (intOf (c1 k j)) ∧ intOf (c1 k j) < 9223372036854775808 := fun k j hk hj => by
    have := a1.fit k j hk hj
    match j, hj with
    | 0, _ => exact fits_int ev0 this
    | 1, _ => exact fits_int ev1 this
    | 2, _ => exact fits_int ev2 this
  have hE : Go.Abs.EvsAt (Go.Abs.rowsH (L0 ++ L1)) b1 n1 L0.length (fun k j => intOf (c1 k j)) :=
    ⟨hb1, fun k j hk hj => by rw [hc1 k j hk hj]; exact congrArg some (kv k j hk hj).1⟩
  have hR : n0 ≤ 20 → Go.Abs.RecsAt (Go.Abs.rowsH (L0 ++ L1)) b0 n0 0 c0 (fun k => intOf (c0 k 12)) (fun k => intOf (c0 k 13)) := fun hn =>
    ⟨hn, hb0, hc0, fun k hk => ⟨_, (fits_int rc0 (a0.fit k 0 hk (by decide))).1⟩, fun k hk => (fits_int rc12 (a0.fit k 12 hk (by decide))).1, fun k hk => (fits_int rc13 (a0.fit k 13 hk (by decide))).1,
      fun k j hk hj => fits_one (a0.fit k j hk hj)⟩
  exact Go.Abs.calls_in (E := Go.Abs.E0) (X0 := Go.Abs.XL) Go.Abs.hcall0 (Go.Abs.XA_sem Go.Abs.hcall0 (Go.Abs.XOf_sem Go.Abs.xfit0) rfl Go.Abs.awake_spec) (args := [.slice b0 n0 n0, .slice b1 n1 n1]) (args' := [v0, v1]) (r := .bool true) (L := L0 ++ L1) Tryz.func3 bd0
    (fun r hr => (List.mem_append.1 hr).elim (a0.at_ r) (a1.at_ r)) (.cons r0 (.cons r1 .nil)) rfl (Go.Abs.law Go.Abs.rowsH_wf hE hR fun k hk => (kv k 0 hk (by decide)).2)

/-! ### THE ROW's STEP -/
set_option maxRecDepth 100000 in
theorem lifted (os : Os) (started : os.Started) (H : Type) (enc : TypeId × Value → H) :
    ReturnsInHanded {} Tryz.checked os 3 .any (Rows.traceFitsSpec.pre6 enc Tryz.prog Tryz.f3 Rows.traceFitsRow.domain false) (Rows.traceFitsSpec.post enc Tryz.prog Tryz.f3 false true false false) := by
  refine returnsInHanded_of_change (C := Tryz.checked) own started (by kernel_rfl) Tryz.func3
    (ChangeSpec.witness6 (enc := enc) (C := Tryz.checked) false ⟨#[], #[.slice none 0 0, .slice none 0 0], []⟩ 8 (by kernel_rfl) (by kernel_rfl) (by kernel_rfl) (by kernel_rfl)) ?_
  intro W base args ds gs before hval0 hW hcnd _
  have hval : ∀ (j : Nat) t v, Tryz.f3.params[j]? = some t → args[j]? = some v → Value.okWide Tryz.prog W .any base t v := hval0
  have hW' := hW
  obtain ⟨p, q, hA0, hV, rfl, hfz, hnd⟩ := hW
  have hA : DataW.TrodAll enc Tryz.prog W 0 (fun _ => true) true Tryz.f3.params.toList args.toList ds p := hA0
  rw [Tryz.params3] at hA hval
  obtain ⟨v0, vs0, d0, ds0, p0, q0, hargs, rfl, rfl, h0, r0⟩ := trodAll_cons hA
  obtain ⟨v1, vs1, d1, ds1, p1, q1, rfl, rfl, rfl, h1, r1⟩ := trodAll_cons r0
  obtain ⟨rfl, rfl, rfl⟩ := trodAll_nil r1
  obtain rfl : args = #[v0, v1] := by cases args; simp_all
  obtain ⟨rfl, rfl⟩ := trodVars_none hV
  have hv0 := hval 0 22 v0 rfl rfl
  have hv1 := hval 1 23 v1 rfl rfl
  clear hA0 hval0
  simp only [List.append_nil] at hW'
  have hlt : ∀ x ∈ p0 ++ p1, x.block < W.heap.size := fun x hx => by simpa using hW'.lt x (by simpa using hx)
  refine (walk hv0 hv1 h0 h1).mono fun e W' ⟨he, hg, hbelow⟩ => ?_
  subst he
  exact ⟨_, rfl, post_of_same (pa := p0 ++ p1) (pv := []) hW' (fun _ _ _ => (trodAll_cons_mk (shut_bool Tryz.underlying4 _) trodAll_mk0))
    (fun sp hsp => trodAll_mk2 (WideElems.Trod_stays laidOut (by kernel_rfl) (of_decide_eq_true (by kernel_rfl)) h0 (fun x hx => hbelow.same (hlt x (List.mem_append_left _ hx))) (fun x hx => hsp x (by simp [hx])))
      (WideElems.Trod_stays laidOut (by kernel_rfl) (of_decide_eq_true (by kernel_rfl)) h1 (fun x hx => hbelow.same (hlt x (List.mem_append_right _ hx))) (fun x hx => hsp x (by simp [hx]))))
    (fun _ _ => rfl) (by simp) (hg.frame _) hg.2.1 (ok_one (by kernel_rfl) rfl (okWide_bool_mk Tryz.underlying4 _))⟩

theorem over : Rows.traceFitsRow.holds Tryz.pinned (OpenSpec.ofChange Rows.traceFitsSpec) :=
  OpenClaim.holds_of_wide 3 Tryz.f3 rfl rfl rfl rfl rfl rfl rfl ⟨rfl, rfl, rfl, rfl, rfl⟩ rfl rfl rfl rfl rfl (by kernel_rfl) Tryz.func3 (by kernel_rfl)
    (of_decide_eq_true (by kernel_rfl)) (by unfold Func.isWrapper; first | (rw [if_pos (by decide +kernel)]; kernel_rfl) | (rw [if_neg (by decide +kernel)]; exact ⟨rfl, rfl⟩))
    (fun os started H enc _ => lifted os started H enc)

/-- ████ THE STATEMENT ████ -/
theorem proved : Rows.TraceFitsSaid :=
  over
#print axioms proved
end Go.Proofs.YtbgcilmnenlheaaGreat.traceFits
