/- Code without what no walk looks at: places in the text, edges; drawn regions by their plans. -/
import Derived.Test.YtbgcilmnenlheaaGreatA6
set_option linter.unusedSimpArgs false
set_option linter.unusedVariables false
namespace Go.Abs
open Go
noncomputable section
variable {P : Program}

/-- When an operation is wanted. -/
inductive SG where
  | always
  | never
  | on (d : Nat) (b : Bool)
structure SO where
  g : SG
  d : Option Nat
  op : Op
inductive SC where
  | skip
  | ops (l : List SO)
  | draw (ag : List SO) (l : List (Nat × SO))
  | seq (a b : SC)
  | cond (x : Operand) (a b : SC)
  | blk (id : Nat) (a : SC)
  | loop (a : SC)
  | range (f : Operand) (ps : Array Tmp) (asg body : Code)
  | exit (id : Nat)
  | ret
  | no

def slimG (ops : Array Oper) (o : Oper) : SG := match o.guard with
  | none => .always
  | some (j, b) => match (ops[j]?).bind (·.dst) with
    | some d => .on d b
    | none => .never
def dstOk (n : Nat) : Option Tmp → Bool
  | none => true
  | some d => Nat.blt d n
def slimO (ops : Array Oper) (o : Oper) : SO := ⟨slimG ops o, o.dst, o.op⟩
def slimOps (n : Nat) (ops : Array Oper) : List Oper → Option (List SO)
  | [] => some []
  | o :: l => bif dstOk n o.dst then (match slimOps n ops l with
    | some r => some (slimO ops o :: r)
    | none => none) else none
def slimTags (n : Nat) (ops : Array Oper) : List (Nat × Oper) → Option (List (Nat × SO))
  | [] => some []
  | (g, o) :: l => bif dstOk n o.dst then (match slimTags n ops l with
    | some r => some ((g, slimO ops o) :: r)
    | none => none) else none
def slimAg (ops : Array Oper) : List Oper → List SO
  | [] => []
  | o :: l => slimO ops o :: slimAg ops l
def slimDraw (E : Env P) (n : Nat) (ops : Array Oper) (m : Nat) : SC :=
  bif planOk E ops m then (match slimTags n ops (tagL E ops.toList (masks ops.toList 0 .e) m ops.toList 0) with
    | some l => .draw (slimAg ops (againOf E ops.toList (masks ops.toList 0 .e) m ops.size ops.toList 0)) l
    | none => .no) else .no
def slim (E : Env P) (hm : FuncId → Nat → Option Nat) (fn : FuncId) (n : Nat) : Code → SC
  | .skip => .skip
  | .label _ => .skip
  | .region id ops d => bif d then slimDraw E n ops ((hm fn id).getD (mFind E ops)) else (match slimOps n ops ops.toList with
    | some l => .ops l
    | none => .no)
  | .seq a b => .seq (slim E hm fn n a) (slim E hm fn n b)
  | .cond x a b => .cond x (slim E hm fn n a) (slim E hm fn n b)
  | .block id a => .blk id (slim E hm fn n a)
  | .loop a => .loop (slim E hm fn n a)
  | .rangeFunc f ps asg body => .range f ps asg body
  | .exit id => .exit id
  | .ret => .ret
  | _ => .no

/-! ### The calculus over it -/
variable (E : Env P) (X0 : Ext0)
def mkO (op : Op) : Oper := ⟨none, op, 0, "", #[], none⟩
def sPut (ρ : Rho) (dst : Option Tmp) (v : Value) (k : Rho → Prop) : Prop := match dst with
  | none => k ρ
  | some d => k (upd ρ d v)
def sGd (g : SG) (ρ : Rho) (Y N : Prop) : Prop := match g with
  | .always => Y
  | .never => N
  | .on d b => wG (ρ d) b Y N
def sStep (o : SO) (ρ : Rho) (A : AHeap) (k : Rho → AHeap → Prop) : Prop :=
  match o.op with
  | .call c => match c.callee with
    | .value f => wE (evR ρ f) fun fv => wEs ρ c.args.toList fun args => wApp E X0 fv args A fun v A' => sPut ρ o.d v fun ρ' => k ρ' A'
    | _ => wOp E (mkO o.op) ρ A fun v A' => sPut ρ o.d v fun ρ' => k ρ' A'
  | _ => wOp E (mkO o.op) ρ A fun v A' => sPut ρ o.d v fun ρ' => k ρ' A'
def sStepD (rd : Option Nat) (o : SO) (ds : List Deferred) (ρ : Rho) (A : AHeap) (k : KTP) : Prop :=
  match o.op with
  | .defer c => match c.callee, rd with
    | .value f, none => wE (evR ρ f) fun fv => wEs ρ c.args.toList fun args => wFn fv fun fn first cap => sPut ρ o.d undef fun ρ' => k ({ target := .fn (.func fn) cap, args := first ++ args.toArray } :: ds) ρ' A
    | _, _ => False
  | _ => sStep E X0 o ρ A fun ρ' A' => k ds ρ' A'
def sOps (rd : Option Nat) (l : List SO) : KTP → List Deferred → Rho → AHeap → Prop :=
  List.rec (motive := fun _ => KTP → List Deferred → Rho → AHeap → Prop) (fun K ds ρ A => K ds ρ A)
    (fun o _ ih K ds ρ A => sGd o.g ρ (sStepD E X0 rd o ds ρ A (ih K)) (sPut ρ o.d undef fun ρ' => ih K ds ρ' A)) l
def sAg (ag : List SO) (ρ : Rho) (A : AHeap) (k : Prop) : Prop :=
  List.rec (motive := fun _ => Prop) k (fun o _ ih => match o.d with
    | some d => wOp E (mkO o.op) ρ A fun v _ => v = ρ d ∧ ih
    | none => False) ag
def sStepQ (o : SO) (ρ : Rho) (A : AHeap) (k : Rho → AHeap → Prop) : Prop :=
  match o.op with
  | .call c => match c.callee with
    | .value f => wE (evR ρ f) fun fv => wEs ρ c.args.toList fun args => wAppQ E X0 fv args A fun v A' => sPut ρ o.d v fun ρ' => k ρ' A'
    | _ => False
  | _ => False
def sTag (A0 : AHeap) (g : Nat) (o : SO) (ρ : Rho) (A : AHeap) (k : Rho → AHeap → Prop) : Prop :=
  bif Nat.beq g 5 then wOp E (mkO o.op) ρ A0 fun v _ => sPut ρ o.d v fun ρ' => k ρ' A
  else bif Nat.beq g 3 then sStepQ E X0 o ρ A k
  else sStep E X0 o ρ A k
def sRun (A0 : AHeap) (ag : List SO) (l : List (Nat × SO)) : Rho → AHeap → (Rho → AHeap → Prop) → Prop :=
  List.rec (motive := fun _ => Rho → AHeap → (Rho → AHeap → Prop) → Prop) (fun ρ A K => sAg E ag ρ A (K ρ A))
    (fun p _ ih ρ A K => bif Nat.beq p.1 4 then sAg E ag ρ A (sGd p.2.g ρ (sTag E X0 A0 p.1 p.2 ρ A fun ρ A => ih ρ A K) (sPut ρ p.2.d undef fun ρ' => ih ρ' A K))
      else sGd p.2.g ρ (sTag E X0 A0 p.1 p.2 ρ A fun ρ A => ih ρ A K) (sPut ρ p.2.d undef fun ρ' => ih ρ' A K)) l

def wpS (fn : FuncId) (rd : Option Nat) (n : Nat) (c : SC) : KTP → KXP → List Deferred → Rho → AHeap → Prop :=
  SC.rec (motive := fun _ => KTP → KXP → List Deferred → Rho → AHeap → Prop)
    (fun K _ ds ρ A => K ds ρ A)
    (fun l K _ ds ρ A => sOps E X0 rd l K ds ρ A)
    (fun ag l K _ ds ρ A => sRun E X0 A ag l ρ A fun ρ A => K ds ρ A)
    (fun _ _ a b K X ds ρ A => a (fun ds ρ A => b K X ds ρ A) X ds ρ A)
    (fun x _ _ a b K X ds ρ A => wE (evR ρ x) fun v => wIf v (a K X ds ρ A) (b K X ds ρ A))
    (fun id _ a K X ds ρ A => a K (wBlk id K X) ds ρ A)
    (fun _ a _ X ds ρ A => wLoop a X ds ρ A)
    (fun f params asg body K X ds ρ A => wRange E X0 fn rd n f params asg body K X ds ρ A)
    (fun id _ X ds ρ A => X (.exit id) ds ρ A)
    (fun _ X ds ρ A => X .ret ds ρ A)
    (fun _ _ _ _ _ => False) c

variable {E} {X0}

theorem sPut_w {n : Nat} {ρ : Rho} {dst : Option Tmp} {v : Value} {k : Rho → Prop} (hd : dstOk n dst = true) (h : sPut ρ dst v k) : wPut n ρ dst v k := by
  cases dst with
  | none => exact h
  | some d =>
    have hd : Nat.blt d n = true := hd
    show (bif Nat.blt d n then k (upd ρ d v) else False)
    rw [hd]; exact h
theorem sGd_w {ops : Array Oper} {o : Oper} {ρ : Rho} {Y N : Prop} (h : sGd (slimG ops o) ρ Y N) : wWants ops o ρ Y N := by
  unfold slimG at h
  unfold wWants
  split
  · rename_i hg; rw [hg] at h; exact h
  · rename_i j b hg
    rw [hg] at h
    simp only at h
    split
    · rename_i d hd; rw [hd] at h; exact h
    · rename_i hd; rw [hd] at h; exact h
theorem wOp_mkO {o : Oper} {ρ : Rho} {A : AHeap} {k : Value → AHeap → Prop} (h : wOp E (mkO o.op) ρ A k) : wOp E o ρ A k := h
theorem sStep_w {n : Nat} {ops : Array Oper} {o : Oper} {ρ : Rho} {A : AHeap} {k : Rho → AHeap → Prop} (hd : dstOk n o.dst = true) (h : sStep E X0 (slimO ops o) ρ A k) : wStep E X0 n o ρ A k := by
  have h : (match o.op with
    | .call c => match c.callee with
      | .value f => wE (evR ρ f) fun fv => wEs ρ c.args.toList fun args => wApp E X0 fv args A fun v A' => sPut ρ o.dst v fun ρ' => k ρ' A'
      | _ => wOp E (mkO o.op) ρ A fun v A' => sPut ρ o.dst v fun ρ' => k ρ' A'
    | _ => wOp E (mkO o.op) ρ A fun v A' => sPut ρ o.dst v fun ρ' => k ρ' A') := h
  unfold wStep
  split at h
  · rename_i c ho
    simp only [ho]
    split at h
    · rename_i f hc
      simp only [hc]
      exact wE_mono (fun _ h => wEs_mono (fun _ h => wApp_mono (fun _ _ h => sPut_w hd h) h) h) h
    · rename_i hc
      have h := wOp_mono (E := E) (fun _ _ h => sPut_w hd h) (wOp_mkO h)
      split
      · rename_i f hf; exact absurd hf (hc f)
      · exact h
  · rename_i hno
    have h := wOp_mono (E := E) (fun _ _ h => sPut_w hd h) (wOp_mkO h)
    split
    · rename_i c ho; exact absurd ho (hno c)
    · exact h
theorem sStepD_w {rd : Option Nat} {n : Nat} {ops : Array Oper} {o : Oper} {ds : List Deferred} {ρ : Rho} {A : AHeap} {k : KTP} (hd : dstOk n o.dst = true) (h : sStepD E X0 rd (slimO ops o) ds ρ A k) : wStepD E X0 rd n o ds ρ A k := by
  by_cases hdf : ∃ c, o.op = .defer c
  · obtain ⟨c, ho⟩ := hdf
    have e : (slimO ops o).op = .defer c := ho
    unfold sStepD at h
    unfold wStepD
    simp only [e] at h
    simp only [ho]
    cases rd with
    | some r => split at h <;> first | exact h.elim | simp_all
    | none =>
      cases hc : c.callee with
      | value f =>
        simp only [hc] at h ⊢
        exact wE_mono (fun _ h => wEs_mono (fun _ h => wFn_mono (fun _ _ _ h => sPut_w hd h) h) h) h
      | builtin b => simp only [hc] at h
      | invoke a b => simp only [hc] at h
  · have h1 : sStep E X0 (slimO ops o) ρ A fun ρ' A' => k ds ρ' A' := by
      unfold sStepD at h
      split at h
      · rename_i c ho; exact absurd ⟨c, ho⟩ hdf
      · exact h
    have h2 := sStep_w hd h1
    unfold wStepD
    split
    · rename_i c ho; exact absurd ⟨c, ho⟩ hdf
    · exact h2
theorem sOps_w {rd : Option Nat} {n : Nat} {ops : Array Oper} : ∀ {l : List Oper} {sl : List SO} {K : KTP} {ds : List Deferred} {ρ : Rho} {A : AHeap}, slimOps n ops l = some sl → sOps E X0 rd sl K ds ρ A → opsW E X0 rd n ops l K ds ρ A
  | [], sl, K, ds, ρ, A, e, h => by cases e; exact h
  | o :: l, sl, K, ds, ρ, A, e, h => by
    unfold slimOps at e
    cases hd : dstOk n o.dst with
    | false => rw [hd] at e; cases e
    | true =>
      rw [hd] at e
      simp only [cond_true] at e
      split at e
      · rename_i r hr
        cases e
        have h : sGd (slimG ops o) ρ (sStepD E X0 rd (slimO ops o) ds ρ A (sOps E X0 rd r K)) (sPut ρ o.dst undef fun ρ' => sOps E X0 rd r K ds ρ' A) := h
        exact wWants_mono (fun h => wStepD_mono (fun _ _ _ h => sOps_w hr h) (sStepD_w hd h)) (fun h => wPut_mono (fun _ h => sOps_w hr h) (sPut_w hd h)) (sGd_w h)
      · cases e
theorem sAg_w {ops : Array Oper} {ρ : Rho} {A : AHeap} {k : Prop} : ∀ {ag : List Oper}, sAg E (slimAg ops ag) ρ A k → wAg E ag ρ A k
  | [], h => h
  | o :: r, h => by
    have h : (match o.dst with
      | some d => wOp E (mkO o.op) ρ A fun v _ => v = ρ d ∧ sAg E (slimAg ops r) ρ A k
      | none => False) := h
    show (match o.dst with
      | some d => wOp E o ρ A fun v _ => v = ρ d ∧ wAg E r ρ A k
      | none => False)
    split at h
    · exact wOp_mono (E := E) (fun _ _ h => ⟨h.1, sAg_w h.2⟩) (wOp_mkO h)
    · exact h
theorem sStepQ_w {n : Nat} {ops : Array Oper} {o : Oper} {ρ : Rho} {A : AHeap} {k : Rho → AHeap → Prop} (hd : dstOk n o.dst = true) (h : sStepQ E X0 (slimO ops o) ρ A k) : wStepQ E X0 n o ρ A k := by
  have h : (match o.op with
    | .call c => match c.callee with
      | .value f => wE (evR ρ f) fun fv => wEs ρ c.args.toList fun args => wAppQ E X0 fv args A fun v A' => sPut ρ o.dst v fun ρ' => k ρ' A'
      | _ => False
    | _ => False) := h
  unfold wStepQ
  split at h
  · rename_i c ho
    simp only [ho]
    split at h
    · rename_i f hc
      simp only [hc]
      exact wE_mono (fun _ h => wEs_mono (fun _ h => wAppQ_mono (fun _ _ h => sPut_w hd h) h) h) h
    · exact h.elim
  · exact h.elim
theorem sTag_w {n : Nat} {ops : Array Oper} {A0 : AHeap} {g : Nat} {o : Oper} {ρ : Rho} {A : AHeap} {k : Rho → AHeap → Prop} (hd : dstOk n o.dst = true) (h : sTag E X0 A0 g (slimO ops o) ρ A k) : wTag E X0 n A0 g o ρ A k := by
  unfold sTag at h
  unfold wTag
  cases h5 : Nat.beq g 5 with
  | true =>
    rw [h5] at h
    have h : wOp E (mkO o.op) ρ A0 (fun v _ => sPut ρ o.dst v fun ρ' => k ρ' A) := h
    exact wOp_mono (E := E) (fun _ _ h => sPut_w hd h) (wOp_mkO h)
  | false =>
    rw [h5] at h
    cases h3 : Nat.beq g 3 with
    | true => rw [h3] at h; exact sStepQ_w hd h
    | false => rw [h3] at h; exact sStep_w hd h
theorem sRun_w {n : Nat} {ops : Array Oper} {A0 : AHeap} {ag : List Oper} : ∀ {l : List (Nat × Oper)} {sl : List (Nat × SO)} {ρ : Rho} {A : AHeap} {K : Rho → AHeap → Prop}, slimTags n ops l = some sl → sRun E X0 A0 (slimAg ops ag) sl ρ A K → runW E X0 n ops A0 ag l ρ A K
  | [], sl, ρ, A, K, e, h => by cases e; exact sAg_w h
  | (g, o) :: l, sl, ρ, A, K, e, h => by
    unfold slimTags at e
    cases hd : dstOk n o.dst with
    | false => rw [hd] at e; cases e
    | true =>
      rw [hd] at e
      simp only [cond_true] at e
      split at e
      · rename_i r hr
        cases e
        have one : (sGd (slimG ops o) ρ (sTag E X0 A0 g (slimO ops o) ρ A fun ρ A => sRun E X0 A0 (slimAg ops ag) r ρ A K) (sPut ρ o.dst undef fun ρ' => sRun E X0 A0 (slimAg ops ag) r ρ' A K)) →
            (wWants ops o ρ (wTag E X0 n A0 g o ρ A fun ρ A => runW E X0 n ops A0 ag l ρ A K) (wPut n ρ o.dst undef fun ρ' => runW E X0 n ops A0 ag l ρ' A K)) := fun h =>
          wWants_mono (fun h => wTag_mono (fun _ _ h => sRun_w hr h) (sTag_w hd h)) (fun h => wPut_mono (fun _ h => sRun_w hr h) (sPut_w hd h)) (sGd_w h)
        have h : bif Nat.beq g 4 then sAg E (slimAg ops ag) ρ A (sGd (slimG ops o) ρ (sTag E X0 A0 g (slimO ops o) ρ A fun ρ A => sRun E X0 A0 (slimAg ops ag) r ρ A K) (sPut ρ o.dst undef fun ρ' => sRun E X0 A0 (slimAg ops ag) r ρ' A K))
          else sGd (slimG ops o) ρ (sTag E X0 A0 g (slimO ops o) ρ A fun ρ A => sRun E X0 A0 (slimAg ops ag) r ρ A K) (sPut ρ o.dst undef fun ρ' => sRun E X0 A0 (slimAg ops ag) r ρ' A K) := h
        show bif Nat.beq g 4 then wAg E ag ρ A (wWants ops o ρ (wTag E X0 n A0 g o ρ A fun ρ A => runW E X0 n ops A0 ag l ρ A K) (wPut n ρ o.dst undef fun ρ' => runW E X0 n ops A0 ag l ρ' A K))
          else wWants ops o ρ (wTag E X0 n A0 g o ρ A fun ρ A => runW E X0 n ops A0 ag l ρ A K) (wPut n ρ o.dst undef fun ρ' => runW E X0 n ops A0 ag l ρ' A K)
        cases e4 : Nat.beq g 4 with
        | true => rw [e4] at h; exact sAg_w (wAg_mono' one h)
        | false => rw [e4] at h; exact one h
      · cases e
where
  wAg_mono' {ag : List SO} {ρ : Rho} {A : AHeap} {k k' : Prop} (hk : k → k') (h : sAg E ag ρ A k) : sAg E ag ρ A k' := by
    induction ag with
    | nil => exact hk h
    | cons o r ih =>
      have h' : (match o.d with
        | some d => wOp E (mkO o.op) ρ A fun v _ => v = ρ d ∧ sAg E r ρ A k
        | none => False) := h
      show (match o.d with
        | some d => wOp E (mkO o.op) ρ A fun v _ => v = ρ d ∧ sAg E r ρ A k'
        | none => False)
      split at h'
      · exact wOp_mono (fun _ _ h => ⟨h.1, ih h.2⟩) h'
      · exact h'

theorem wpS_w {hm : FuncId → Nat → Option Nat} {fn : FuncId} {rd : Option Nat} {n : Nat} : ∀ (code : Code) (K : KTP) (X : KXP) (ds : List Deferred) (ρ : Rho) (A : AHeap),
    wpS E X0 fn rd n (slim E hm fn n code) K X ds ρ A → wpC E X0 hm fn rd n code K X ds ρ A := by
  intro code
  induction code with
  | skip => exact fun K X ds ρ A h => h
  | label l => exact fun K X ds ρ A h => h
  | exit id => exact fun K X ds ρ A h => h
  | ret => exact fun K X ds ρ A h => h
  | region id ops d =>
    intro K X ds ρ A h
    cases d with
    | false =>
      have h : wpS E X0 fn rd n (match slimOps n ops ops.toList with | some l => .ops l | none => .no) K X ds ρ A := h
      split at h
      · rename_i l hl; exact sOps_w hl h
      · exact h.elim
    | true =>
      have h : wpS E X0 fn rd n (slimDraw E n ops ((hm fn id).getD (mFind E ops))) K X ds ρ A := h
      show drawAt E X0 n ops ((hm fn id).getD (mFind E ops)) ρ A (fun ρ A => K ds ρ A)
      unfold slimDraw at h
      unfold drawAt
      cases e : planOk E ops ((hm fn id).getD (mFind E ops)) with
      | false => rw [e] at h; exact h.elim
      | true =>
        rw [e] at h
        simp only [cond_true] at h ⊢
        split at h
        · rename_i l hl; exact sRun_w hl h
        · exact h.elim
  | seq a b iha ihb => exact fun K X ds ρ A h => wpC_mono a _ _ _ _ _ _ _ (fun _ _ _ h => ihb _ _ _ _ _ h) (fun _ _ _ _ h => h) (iha _ _ _ _ _ h)
  | cond x a b iha ihb => exact fun K X ds ρ A h => wE_mono (fun v h => wIf_mono (iha _ _ _ _ _) (ihb _ _ _ _ _) h) h
  | block id a iha => exact fun K X ds ρ A h => iha _ _ _ _ _ h
  | loop a iha =>
    intro K X ds ρ A h
    obtain ⟨k, h⟩ := h
    refine ⟨k, ?_⟩
    have key : ∀ k ds ρ A, loopW (wpS E X0 fn rd n (slim E hm fn n a)) X k ds ρ A → loopW (wpC E X0 hm fn rd n a) X k ds ρ A := by
      intro k
      induction k with
      | zero => exact fun _ _ _ h => h
      | succ k ih => exact fun ds ρ A h => wpC_mono a _ _ _ _ _ _ _ ih (fun _ _ _ _ h => h) (iha _ _ _ _ _ h)
    exact key k ds ρ A h
  | rangeFunc f ps asg body _ _ => exact fun K X ds ρ A h => h
  | _ => exact fun K X ds ρ A h => h.elim

end
end Go.Abs

/- Walking over slim code: the words' laws. -/
namespace Go.Abs
open Go
noncomputable section
variable {P : Program} {E : Env P} {X0 : Ext0}

/-- THE CALL OF A FUNCTION, OUT OF ITS SLIM BODY. -/
theorem wCall_S {hm : FuncId → Nat → Option Nat} {f : FuncId} {fn : Func} {args : List Value} {A : AHeap} {K : Value → AHeap → Prop} {c : SC} {n : Nat} {rs : List ResultVar} (hf : E.fns f = some fn)
    (hs : fn.body.map (slim E hm f n) = some c) (hn : args.length + (fn.ntmps - args.length) = n) (hr : fn.results.toList = rs)
    (h : wpS E X0 f none n c (wFin E X0 rs K) (wEnd E X0 rs K) [] (rhoL args) A) (hw : WF A) : wCall E X0 f args A K := by
  refine wCall_of (hm := hm) hf ?_ hw
  unfold wBody
  cases hb : fn.body with
  | none => rw [hb] at hs; cases hs
  | some code =>
    rw [hb] at hs
    simp only [Option.map_some, Option.some.injEq] at hs
    simp only
    rw [hn, hr]
    refine wpS_w code _ _ _ _ _ ?_
    rw [hs]; exact h

section
variable {fn : FuncId} {rd : Option Nat} {n : Nat} {K : KTP} {X : KXP} {ds : List Deferred} {ρ : Rho} {A : AHeap}
theorem wE_some {v : Value} {k : Value → Prop} : wE (some v) k = k v := rfl
theorem wO_some {α : Type} {v : α} {k : α → Prop} : wO (some v) k = k v := by
  apply propext; constructor
  · rintro ⟨x, e, h⟩; cases e; exact h
  · exact fun h => ⟨v, rfl, h⟩
theorem wO2_some {v : Value} {A : AHeap} {k : Value → AHeap → Prop} : wO2 (some (v, A)) k = k v A := by
  apply propext; constructor
  · rintro ⟨x, B, e, h⟩; cases e; exact h
  · exact fun h => ⟨v, A, rfl, h⟩
theorem wIf_bool {t : Bool} {p q : Prop} : wIf (.bool t) p q = ((t = true → p) ∧ (t = false → q)) := by
  apply propext; constructor
  · rintro ⟨x, e, h⟩; cases e; exact h
  · exact fun h => ⟨t, rfl, h⟩
theorem wIf_true {p q : Prop} : wIf (.bool true) p q = p := by
  rw [wIf_bool]; simp
theorem wIf_false {p q : Prop} : wIf (.bool false) p q = q := by
  rw [wIf_bool]; simp
theorem wG_bool {t b : Bool} {p q : Prop} : wG (.bool t) b p q = ((t = b → p) ∧ (t ≠ b → q)) := by
  unfold wG; simp
theorem wG_tt {p q : Prop} : wG (.bool true) true p q = p := by rw [wG_bool]; simp
theorem wG_tf {p q : Prop} : wG (.bool true) false p q = q := by rw [wG_bool]; simp
theorem wG_ft {p q : Prop} : wG (.bool false) true p q = q := by rw [wG_bool]; simp
theorem wG_ff {p q : Prop} : wG (.bool false) false p q = p := by rw [wG_bool]; simp
theorem wG_undef {b : Bool} {p q : Prop} : wG undef b p q = q := by
  unfold wG undef; simp
theorem ev_tmp {t} : evR ρ (.tmp t) = some (ρ t) := rfl
theorem ev_func {f} : evR ρ (.func f) = some (.func (.func f) #[] #[]) := rfl
theorem ev_const {v} : evR ρ (.const v) = bif flat v then some v else none := rfl
theorem upd_at {k v j} : upd ρ k v j = if j = k then v else ρ j := by
  unfold upd
  by_cases h : j = k
  · subst h; simp
  · rw [if_neg h]
    have : Nat.beq j k = false := by
      cases e : Nat.beq j k with
      | false => rfl
      | true => exact absurd (Nat.eq_of_beq_eq_true e) h
    rw [this]; rfl
theorem rhoL_at {l : List Value} {j : Nat} : rhoL l j = l.getD j undef := rfl
end

end
end Go.Abs

/- Walking over slim code: numbers. -/
namespace Go.Abs
open Go
noncomputable section
variable {P : Program} {E : Env P} {X0 : Ext0}

/-- A uint64, by its number. -/
def u (n : Nat) : Value := .int .u64 n
def u8 (n : Nat) : Value := .int .u8 n
/-- An int. -/
def iv (n : Int) : Value := .int .i64 n
theorem u_inj {a b : Nat} : (u a = u b) = (a = b) := by
  apply propext; constructor
  · intro h; injection h with _ h; exact Int.ofNat_inj.1 h
  · intro h; rw [h]
theorem iv_inj {a b : Int} : (iv a = iv b) = (a = b) := by
  apply propext; constructor
  · intro h; injection h with _ h
  · intro h; rw [h]
theorem ev_u {ρ : Rho} {n : Nat} : evR ρ (.const (u n)) = some (u n) := rfl
theorem ev_iv {ρ : Rho} {n : Int} : evR ρ (.const (iv n)) = some (iv n) := rfl
theorem ev_int {ρ : Rho} {k : IntKind} {n : Int} : evR ρ (.const (.int k n)) = some (.int k n) := rfl
theorem ev_bool {ρ : Rho} {b : Bool} : evR ρ (.const (.bool b)) = some (.bool b) := rfl
theorem ev_nil {ρ : Rho} : evR ρ (.const (.pointer none)) = some (.pointer none) := rfl
theorem ev_nilSlice {ρ : Rho} : evR ρ (.const (.slice none 0 0)) = some (.slice none 0 0) := rfl
theorem ev_nilMap {ρ : Rho} : evR ρ (.const (.map none)) = some (.map none) := rfl
theorem ev_nilFunc {ρ : Rho} : evR ρ (.const .nilFunc) = some .nilFunc := rfl
theorem ev_string {ρ : Rho} {s : ByteArray} : evR ρ (.const (.string s)) = some (.string s) := rfl

theorem wrap_u64 (n : Nat) : IntKind.u64.wrap (n : Int) = ((n % 18446744073709551616 : Nat) : Int) := by
  have h : IntKind.u64.wrap (n : Int) = (n : Int) % 18446744073709551616 := rfl
  rw [h]; rfl
theorem wrap_u64' (n : Int) : IntKind.u64.wrap n = n % 18446744073709551616 := rfl
theorem wrap_u8 (n : Nat) : IntKind.u8.wrap (n : Int) = ((n % 256 : Nat) : Int) := by
  have h : IntKind.u8.wrap (n : Int) = (n : Int) % 256 := rfl
  rw [h]; rfl
theorem wrap_i64 (n : Int) (h0 : -9223372036854775808 ≤ n) (h1 : n < 9223372036854775808) : IntKind.i64.wrap n = n := by
  have h : IntKind.i64.wrap n = (if true && decide (n % 18446744073709551616 ≥ 9223372036854775808) then n % 18446744073709551616 - 18446744073709551616 else n % 18446744073709551616) := rfl
  rw [h]
  by_cases hn : n < 0
  · have e : n % 18446744073709551616 = n + 18446744073709551616 := by omega
    rw [e, if_pos (by simp; omega)]; omega
  · have e : n % 18446744073709551616 = n := by omega
    rw [e, if_neg (by simp; omega)]

section
variable {t : TypeId}
theorem bu_add {a b : Nat} : aBin E .add t (u a) (u b) = some (u ((a + b) % 18446744073709551616)) := by
  show some (Value.int .u64 (IntKind.u64.wrap ((a : Int) + b))) = _
  rw [show (a : Int) + b = ((a + b : Nat) : Int) from rfl, wrap_u64]; rfl
theorem bu_sub {a b : Nat} (h : b ≤ a) (ha : a < 18446744073709551616) : aBin E .sub t (u a) (u b) = some (u (a - b)) := by
  show some (Value.int .u64 (IntKind.u64.wrap ((a : Int) - b))) = _
  rw [show (a : Int) - b = ((a - b : Nat) : Int) from by omega, wrap_u64, Nat.mod_eq_of_lt (by omega)]; rfl
theorem bu_mul {a b : Nat} : aBin E .mul t (u a) (u b) = some (u ((a * b) % 18446744073709551616)) := by
  show some (Value.int .u64 (IntKind.u64.wrap ((a : Int) * b))) = _
  rw [show (a : Int) * b = ((a * b : Nat) : Int) from rfl, wrap_u64]; rfl
theorem bu_rem {a b : Nat} (h : b ≠ 0) : aBin E .rem t (u a) (u b) = some (u (a % b)) := by
  show (if (b : Int) = 0 then none else some (Value.int .u64 ((a : Int).tmod b))) = _
  rw [if_neg (by omega)]; rfl
theorem bu_quo {a b : Nat} (h : b ≠ 0) (ha : a < 18446744073709551616) : aBin E .quo t (u a) (u b) = some (u (a / b)) := by
  show (if (b : Int) = 0 then none else some (Value.int .u64 (IntKind.u64.wrap ((a : Int).tdiv b)))) = _
  rw [if_neg (by omega), show (a : Int).tdiv b = ((a / b : Nat) : Int) from rfl, wrap_u64, Nat.mod_eq_of_lt (Nat.lt_of_le_of_lt (Nat.div_le_self _ _) ha)]; rfl
theorem bu_eql {a b : Nat} : aBin E .eql t (u a) (u b) = some (.bool (decide (a = b))) := by
  show some (Value.bool ((a : Int) == b)) = _
  congr 2
  by_cases h : a = b
  · simp [h]
  · have : ¬ (a : Int) = b := by omega
    simp [h, this]
theorem bu_neq {a b : Nat} : aBin E .neq t (u a) (u b) = some (.bool (decide (a ≠ b))) := by
  show some (Value.bool ((a : Int) != b)) = _
  congr 2
  by_cases h : a = b
  · simp [h]
  · have : ¬ (a : Int) = b := by omega
    simp [h, this, bne]
theorem bu_lss {a b : Nat} : aBin E .lss t (u a) (u b) = some (.bool (decide (a < b))) := by
  show some (Value.bool (decide ((a : Int) < b))) = _
  congr 2; simp
theorem bu_leq {a b : Nat} : aBin E .leq t (u a) (u b) = some (.bool (decide (a ≤ b))) := by
  show some (Value.bool (decide ((a : Int) ≤ b))) = _
  congr 2; simp
theorem bu_gtr {a b : Nat} : aBin E .gtr t (u a) (u b) = some (.bool (decide (a > b))) := by
  show some (Value.bool (decide ((a : Int) > b))) = _
  congr 2; simp
theorem bu_geq {a b : Nat} : aBin E .geq t (u a) (u b) = some (.bool (decide (a ≥ b))) := by
  show some (Value.bool (decide ((a : Int) ≥ b))) = _
  congr 2; simp
theorem bu_or {a b : Nat} (ha : a < 18446744073709551616) (hb : b < 18446744073709551616) : aBin E .or t (u a) (u b) = some (u (a ||| b)) := by
  show some (Value.int .u64 (IntKind.u64.wrap ((BitVec.ofInt 64 a ||| BitVec.ofInt 64 b).toNat : Nat))) = _
  have h : (BitVec.ofInt 64 (a : Int) ||| BitVec.ofInt 64 (b : Int)).toNat = a ||| b := by
    simp only [BitVec.toNat_or, BitVec.ofInt_natCast, BitVec.toNat_ofNat]
    rw [Nat.mod_eq_of_lt (by simpa using ha), Nat.mod_eq_of_lt (by simpa using hb)]
  rw [h, wrap_u64, Nat.mod_eq_of_lt (Nat.or_lt_two_pow (n := 64) ha hb)]; rfl
theorem bu_shl {a : Nat} {n : Nat} (h : n < 64) : aBin E .shl t (u a) (iv (n : Int)) = some (u (a * 2 ^ n % 18446744073709551616)) := by
  show (if (n : Int) < 0 then none else some (Value.int .u64 (IntKind.u64.wrap ((a : Int) * 2 ^ (min (n : Int).toNat 64))))) = _
  rw [if_neg (by omega), Int.toNat_natCast, Nat.min_eq_left (by omega), show (a : Int) * 2 ^ n = ((a * 2 ^ n : Nat) : Int) from by simp, wrap_u64]; rfl
theorem bu_shr {a : Nat} {n : Nat} (h : n < 64) : aBin E .shr t (u a) (iv (n : Int)) = some (u (a / 2 ^ n)) := by
  show (if (n : Int) < 0 then none else some (Value.int .u64 ((a : Int).fdiv (2 ^ (min (n : Int).toNat 64))))) = _
  rw [if_neg (by omega), Int.toNat_natCast, Nat.min_eq_left (by omega)]
  congr 2
  rw [show ((2 : Int) ^ n) = ((2 ^ n : Nat) : Int) from by simp, Int.fdiv_eq_ediv_of_nonneg _ (Int.natCast_nonneg _)]; rfl

theorem bi_add {a b : Int} (h0 : -9223372036854775808 ≤ a + b) (h1 : a + b < 9223372036854775808) : aBin E .add t (iv a) (iv b) = some (iv (a + b)) := by
  show some (Value.int .i64 (IntKind.i64.wrap (a + b))) = _
  rw [wrap_i64 _ h0 h1]; rfl
theorem bi_sub {a b : Int} (h0 : -9223372036854775808 ≤ a - b) (h1 : a - b < 9223372036854775808) : aBin E .sub t (iv a) (iv b) = some (iv (a - b)) := by
  show some (Value.int .i64 (IntKind.i64.wrap (a - b))) = _
  rw [wrap_i64 _ h0 h1]; rfl
theorem bi_mul {a b : Int} (h0 : -9223372036854775808 ≤ a * b) (h1 : a * b < 9223372036854775808) : aBin E .mul t (iv a) (iv b) = some (iv (a * b)) := by
  show some (Value.int .i64 (IntKind.i64.wrap (a * b))) = _
  rw [wrap_i64 _ h0 h1]; rfl
theorem bi_rem {a b : Int} (h : b ≠ 0) : aBin E .rem t (iv a) (iv b) = some (iv (a.tmod b)) := by
  show (if b = 0 then none else some (Value.int .i64 (a.tmod b))) = _
  rw [if_neg h]; rfl
theorem bi_eql {a b : Int} : aBin E .eql t (iv a) (iv b) = some (.bool (decide (a = b))) := by
  show some (Value.bool (a == b)) = _
  congr 2
theorem bi_neq {a b : Int} : aBin E .neq t (iv a) (iv b) = some (.bool (decide (a ≠ b))) := by
  show some (Value.bool (a != b)) = _
  congr 2
  by_cases h : a = b <;> simp [h, bne]
theorem bi_lss {a b : Int} : aBin E .lss t (iv a) (iv b) = some (.bool (decide (a < b))) := rfl
theorem bi_leq {a b : Int} : aBin E .leq t (iv a) (iv b) = some (.bool (decide (a ≤ b))) := rfl
theorem bi_gtr {a b : Int} : aBin E .gtr t (iv a) (iv b) = some (.bool (decide (a > b))) := rfl
theorem bi_geq {a b : Int} : aBin E .geq t (iv a) (iv b) = some (.bool (decide (a ≥ b))) := rfl
theorem un_not {b : Bool} : aUn .not (.bool b) = some (.bool (!b)) := rfl
end
end
end Go.Abs

/- Walking over slim code: the heap, cell by cell. -/
namespace Go.Abs
open Go
noncomputable section
variable {P : Program} {E : Env P} {X0 : Ext0}

abbrev ptr (i off : Nat) : Value := .pointer (some ⟨i, off, none⟩)
def AHeap.cell (A : AHeap) (i off : Nat) : Option Value := match A.obj i with
  | some (.cells _ _ n z c) => if off < n then some (cellAt z c off) else none
  | _ => none
def AHeap.own (A : AHeap) (i off : Nat) : Prop := ∃ es n z c, A.obj i = some (.cells false es n z c) ∧ off < n
def AHeap.put (A : AHeap) (i off : Nat) (v : Value) : AHeap := match A.obj i with
  | some (.cells ro es n z c) => A.set i (.cells ro es n z (c.set off v))
  | _ => A
/-- Whose rows are as they were. -/
structure Kp (A B : AHeap) : Prop where
  low : Low A B
  same : ∀ j, j < A.next → B.obj j = A.obj j
theorem Kp.refl {A : AHeap} (h : WF A) : Kp A A := ⟨Low.refl h, fun _ _ => rfl⟩
theorem Kp.trans {A B C : AHeap} (h : Kp A B) (h' : Kp B C) : Kp A C :=
  ⟨h.low.trans h'.low, fun j hj => (h'.same j (Nat.lt_of_lt_of_le hj h.low.next)).trans (h.same j hj)⟩
theorem Kp.push {A B : AHeap} (h : Kp A B) (o : AObj) : Kp A (B.push o) :=
  h.trans ⟨h.low.wf.push' o, fun j hj => by rw [AHeap.obj_push, if_neg (by omega)]⟩
theorem Kp.wf {A B : AHeap} (h : Kp A B) : WF B := h.low.wf
theorem Kp.next {A B : AHeap} (h : Kp A B) : A.next ≤ B.next := h.low.next

theorem AHeap.cell_lt {A : AHeap} (h : WF A) {i off : Nat} {v : Value} (e : A.cell i off = some v) : i < A.next := by
  unfold AHeap.cell at e
  split at e
  · rename_i ho; exact h.lt ho
  · cases e
theorem AHeap.own_lt {A : AHeap} (h : WF A) {i off : Nat} (e : A.own i off) : i < A.next := by
  obtain ⟨_, _, _, _, ho, _⟩ := e; exact h.lt ho
theorem Kp.obj {A B : AHeap} (h : Kp A B) {i : Nat} {o : AObj} (hA : WF A) (e : A.obj i = some o) : B.obj i = some o := by rw [h.same i (hA.lt e)]; exact e
theorem Kp.cell {A B : AHeap} (h : Kp A B) (hA : WF A) {i off : Nat} {v : Value} (e : A.cell i off = some v) : B.cell i off = some v := by
  have := AHeap.cell_lt hA e
  unfold AHeap.cell at e ⊢
  rw [h.same i this]; exact e
theorem Kp.own {A B : AHeap} (h : Kp A B) (hA : WF A) {i off : Nat} (e : A.own i off) : B.own i off := by
  obtain ⟨a, b, c, d, ho, hl⟩ := e
  exact ⟨a, b, c, d, h.obj hA ho, hl⟩

theorem AHeap.cell_push {A : AHeap} {o : AObj} {i off : Nat} (h : i < A.next) : (A.push o).cell i off = A.cell i off := by
  unfold AHeap.cell; rw [AHeap.obj_push, if_neg (by omega)]
theorem AHeap.own_push {A : AHeap} {o : AObj} {i off : Nat} (hA : WF A) (h : A.own i off) : (A.push o).own i off := by
  have := AHeap.own_lt hA h
  obtain ⟨a, b, c, d, ho, hl⟩ := h
  exact ⟨a, b, c, d, by rw [AHeap.obj_push, if_neg (by omega)]; exact ho, hl⟩
theorem AHeap.cell_new {A : AHeap} {ro : Bool} {es n : Nat} {z : List Value} {c : T Value} {off : Nat} : (A.push (.cells ro es n z c)).cell A.next off = if off < n then some (cellAt z c off) else none := by
  unfold AHeap.cell; rw [AHeap.obj_push, if_pos rfl]
theorem AHeap.own_new {A : AHeap} {es n : Nat} {z : List Value} {c : T Value} {off : Nat} (h : off < n) : (A.push (.cells false es n z c)).own A.next off := ⟨es, n, z, c, by rw [AHeap.obj_push, if_pos rfl], h⟩
theorem cellAt_set {z : List Value} {c : T Value} {k j : Nat} {v : Value} : cellAt z (c.set k v) j = if j = k then v else cellAt z c j := by
  unfold cellAt; rw [T.get_set]
  by_cases h : j = k
  · rw [if_pos h, if_pos h]
  · rw [if_neg h, if_neg h]

theorem AHeap.put_of {A : AHeap} {i off es n : Nat} {z : List Value} {c : T Value} {v : Value} (h : A.obj i = some (.cells false es n z c)) : A.put i off v = A.set i (.cells false es n z (c.set off v)) := by
  unfold AHeap.put; rw [h]
theorem AHeap.next_put {A : AHeap} {i off : Nat} {v : Value} : (A.put i off v).next = A.next := by
  unfold AHeap.put; split <;> rfl
theorem AHeap.obj_put_other {A : AHeap} {i off j : Nat} {v : Value} (h : j ≠ i) : (A.put i off v).obj j = A.obj j := by
  unfold AHeap.put; split
  · rw [AHeap.obj_set, if_neg h]
  · rfl
theorem AHeap.cell_put {A : AHeap} {i off j o : Nat} {v : Value} (h : A.own i off) : (A.put i off v).cell j o = if j = i ∧ o = off then some v else A.cell j o := by
  obtain ⟨es, n, z, c, ho, hl⟩ := h
  rw [AHeap.put_of ho]
  unfold AHeap.cell
  rw [AHeap.obj_set]
  by_cases hj : j = i
  · subst hj
    rw [if_pos rfl, ho]
    simp only [true_and, cellAt_set]
    by_cases e : o = off
    · subst e; simp [hl]
    · simp [e]
  · rw [if_neg hj, if_neg (fun h => hj h.1)]
theorem AHeap.own_put {A : AHeap} {i off j o : Nat} {v : Value} (h : A.own j o) : (A.put i off v).own j o := by
  by_cases hj : j = i
  · subst hj
    obtain ⟨es, n, z, c, ho, hl⟩ := h
    rw [AHeap.put_of ho]
    exact ⟨es, n, z, _, by rw [AHeap.obj_set, if_pos rfl], hl⟩
  · obtain ⟨es, n, z, c, ho, hl⟩ := h
    exact ⟨es, n, z, c, by rw [AHeap.obj_put_other hj]; exact ho, hl⟩
theorem AHeap.low_put {A : AHeap} (hA : WF A) {i off : Nat} {v : Value} (h : A.own i off) : Low A (A.put i off v) := by
  obtain ⟨es, n, z, c, ho, hl⟩ := h
  rw [AHeap.put_of ho]
  exact hA.set' ho

/-! ### Operations on it -/
theorem ld_eq {t : TypeId} (h : (E.und t).map aggD = some false) {i off : Nat} {A : AHeap} : aLoad E t (ptr i off) A = A.cell i off := by
  obtain ⟨d, hu, hd⟩ := Option.map_eq_some_iff.1 h
  unfold aLoad AHeap.cell
  simp only [hu, hd]
  rfl
/-- So many cells. -/
def AHeap.cells (A : AHeap) (i off m : Nat) : Option Value := match A.obj i with
  | some (.cells _ _ n z c) => if off + m ≤ n then some (.agg ((List.range m).map fun k => cellAt z c (off + k)).toArray) else none
  | _ => none
theorem ldA_eq {t m : Nat} (h : (E.und t).map aggD = some true) (h' : (E.inf t).map (·.size) = some m) {i off : Nat} {A : AHeap} : aLoad E t (ptr i off) A = A.cells i off m := by
  obtain ⟨d, hu, hd⟩ := Option.map_eq_some_iff.1 h
  obtain ⟨info, hi, hs⟩ := Option.map_eq_some_iff.1 h'
  unfold aLoad AHeap.cells
  simp only [hu, hd, hi, hs]
  rfl
theorem st_eq {t : TypeId} (h' : (E.inf t).map (·.size) = some 1) {i off : Nat} {A : AHeap} {v : Value} (h : A.own i off) (hv : v.cells = #[v]) (h1 : v.oneCell' = true) : aStore E t (ptr i off) v A = some (A.put i off v) := by
  obtain ⟨es, n, z, c, ho, hl⟩ := h
  obtain ⟨info, hi, hs⟩ := Option.map_eq_some_iff.1 h'
  unfold aStore
  simp only [ho, hi, AHeap.put_of ho]
  rw [if_pos]
  · rw [hv]; rfl
  · rw [hs, hv]
    simp [h1]; omega
/-- Where a field stands. -/
def faOff (E : Env P) (t f : Nat) : Option Nat := match E.und t with
  | some (.struct fields) => match fields[f]? with
    | some fd => match E.inf fd.type with
      | some info => if info.size = 0 then none else some fd.offset
      | none => none
    | none => none
  | _ => none
theorem fa_eq {t f o : Nat} (h : faOff E t f = some o) {i off : Nat} : aFieldAddr E t (ptr i off) f = some (ptr i (off + o)) := by
  unfold faOff at h
  unfold aFieldAddr
  split at h
  · rename_i fields hu
    rw [hu]
    simp only
    split at h
    · rename_i fd hf
      rw [hf]
      simp only
      split at h
      · rename_i info hi
        rw [hi]
        simp only
        split at h
        · cases h
        · rename_i hs; cases h; rw [if_neg hs]
      · cases h
    · cases h
  · cases h
/-- How many cells an element takes. -/
def iaSl (E : Env P) (t : Nat) : Option Nat := match E.und t with
  | some (.slice elem) => (E.inf elem).map (·.size)
  | _ => none
theorem ia_eq {t s : Nat} (h : iaSl E t = some s) {i off len cap k : Nat} {kd : IntKind} (hk : k < len) :
    aIndexAddr E t (.slice (some ⟨i, off, none⟩) len cap) (.int kd (k : Int)) = some (ptr i (off + k * s)) := by
  unfold iaSl at h
  split at h
  · rename_i elem hu
    obtain ⟨info, hi, hs⟩ := Option.map_eq_some_iff.1 h
    unfold aIndexAddr
    simp only
    rw [if_neg (by omega), hu]
    simp only [hi, Int.toNat_natCast, if_pos hk, hs]
  · cases h
def iaAr (E : Env P) (t : Nat) : Option (Nat × Nat) := match E.und t with
  | some (.array n elem) => (E.inf elem).map fun i => (n, i.size)
  | _ => none
theorem iaA_eq {t n s : Nat} (h : iaAr E t = some (n, s)) {i off k : Nat} {kd : IntKind} (hk : k < n) :
    aIndexAddr E t (ptr i off) (.int kd (k : Int)) = some (ptr i (off + k * s)) := by
  unfold iaAr at h
  split at h
  · rename_i m elem hu
    obtain ⟨info, hi, hs⟩ := Option.map_eq_some_iff.1 h
    simp only [Prod.mk.injEq] at hs
    obtain ⟨rfl, rfl⟩ := hs
    unfold aIndexAddr
    simp only
    rw [if_neg (by omega), hu]
    simp only [hi, Int.toNat_natCast, if_pos hk]
  · cases h
/-- What is laid where a variable is made. -/
def alOf (E : Env P) (t : Nat) : Option Value := match E.inf t with
  | none => none
  | some i => match i.zero with
    | none => none
    | some z => if z.cells.toList.all flat1 then some z else none
theorem al_eq {t : Nat} {z : Value} (h : alOf E t = some z) {A : AHeap} : aAlloc E t A = some (ptr A.next 0, A.push (.cells false 0 z.cells.size z.cells.toList .e)) := by
  unfold alOf at h
  unfold aAlloc
  split at h
  · cases h
  · rename_i i hi
    rw [hi]
    simp only
    split at h
    · cases h
    · rename_i z' hz
      rw [hz]
      simp only
      split at h
      · rename_i hf; cases h; rw [if_pos hf]
      · cases h
/-- An element's cells, its bytes, its zero. -/
def mkOf (E : Env P) (t : Nat) : Option (Nat × Nat × Value) := match E.und t with
  | some (.slice elem) => match E.inf elem with
    | some i => match i.zero with
      | some z => if z.cells.toList.all flat1 && (0 < z.cells.size) then some (i.size, i.bytes, z) else none
      | none => none
    | none => none
  | _ => none
theorem natOf_int {k : IntKind} {n : Nat} : natOf (.int k (n : Int)) = some n := by
  unfold natOf
  simp
theorem mk_eq {t s b : Nat} {z : Value} (h : mkOf E t = some (s, b, z)) {k k' : IntKind} {l c : Nat} {A : AHeap} (hlc : l ≤ c) (hb : b * c ≤ 2 ^ 48) (hc : c ≤ 2 ^ 48) :
    aMakeSlice E t (.int k (l : Int)) (.int k' (c : Int)) A = some (.slice (some ⟨A.next, 0, none⟩) l c, A.push (.cells false s (c * s) z.cells.toList .e)) := by
  unfold mkOf at h
  unfold aMakeSlice
  rw [natOf_int, natOf_int]
  split at h
  · rename_i elem hu
    rw [hu]
    simp only
    split at h
    · rename_i i hi
      rw [hi]
      simp only
      split at h
      · rename_i z' hz
        rw [hz]
        simp only
        split at h
        · rename_i hf
          cases h
          simp only [Bool.and_eq_true] at hf
          rw [if_pos]
          simp only [Bool.and_eq_true, decide_eq_true_eq]
          exact ⟨⟨⟨⟨hlc, hb⟩, hc⟩, hf.1⟩, by simpa using hf.2⟩
        · cases h
      · cases h
    · cases h
  · cases h
def AHeap.owns (A : AHeap) (i off m : Nat) : Prop := ∃ es n z c, A.obj i = some (.cells false es n z c) ∧ off + m ≤ n
def AHeap.puts (A : AHeap) (i off : Nat) (vs : List Value) : AHeap := match A.obj i with
  | some (.cells ro es n z c) => A.set i (.cells ro es n z (c.putList off vs))
  | _ => A
theorem stA_eq {t m : Nat} (h' : (E.inf t).map (·.size) = some m) {i off : Nat} {A : AHeap} {v : Value} (h : A.owns i off m) (hv : v.cells.size = m) (h1 : v.cells.toList.all Value.oneCell' = true) : aStore E t (ptr i off) v A = some (A.puts i off v.cells.toList) := by
  obtain ⟨es, n, z, c, ho, hl⟩ := h
  obtain ⟨info, hi, hs⟩ := Option.map_eq_some_iff.1 h'
  unfold aStore AHeap.puts
  simp only [ho, hi]
  rw [if_pos]
  rw [hs, hv]
  simp only [Bool.and_eq_true, decide_eq_true_eq]
  exact ⟨⟨trivial, hl⟩, h1⟩
theorem box1 {v : Value} (hv : v.cells = #[v]) {A : AHeap} : aBox v A = (ptr A.next 0, A.push (.cells false 0 1 [] (T.ofList [v]))) := by
  unfold aBox; rw [hv]; rfl
theorem box_agg {cs : Array Value} {A : AHeap} : aBox (.agg cs) A = (ptr A.next 0, A.push (.cells false 0 cs.size [] (T.ofList cs.toList))) := rfl
theorem box_uN {n : Nat} {A : AHeap} : aBox (u n) A = (ptr A.next 0, A.push (.cells false 0 1 [] (T.ofList [u n]))) := rfl
theorem box_iv {n : Int} {A : AHeap} : aBox (iv n) A = (ptr A.next 0, A.push (.cells false 0 1 [] (T.ofList [iv n]))) := rfl
theorem box_int {k : IntKind} {n : Int} {A : AHeap} : aBox (.int k n) A = (ptr A.next 0, A.push (.cells false 0 1 [] (T.ofList [.int k n]))) := rfl
theorem box_bool {b : Bool} {A : AHeap} : aBox (.bool b) A = (ptr A.next 0, A.push (.cells false 0 1 [] (T.ofList [.bool b]))) := rfl
theorem box_ptr {p : Option Addr} {A : AHeap} : aBox (.pointer p) A = (ptr A.next 0, A.push (.cells false 0 1 [] (T.ofList [.pointer p]))) := rfl
theorem box_slice {p : Option Addr} {l c : Nat} {A : AHeap} : aBox (.slice p l c) A = (ptr A.next 0, A.push (.cells false 0 1 [] (T.ofList [.slice p l c]))) := rfl
theorem box_map {p : Option Nat} {A : AHeap} : aBox (.map p) A = (ptr A.next 0, A.push (.cells false 0 1 [] (T.ofList [.map p]))) := rfl
theorem box_func {f : Fn} {a c : Array Value} {A : AHeap} : aBox (.func f a c) A = (ptr A.next 0, A.push (.cells false 0 1 [] (T.ofList [.func f a c]))) := rfl
theorem box_string {s : ByteArray} {A : AHeap} : aBox (.string s) A = (ptr A.next 0, A.push (.cells false 0 1 [] (T.ofList [.string s]))) := rfl
theorem cell_box {A : AHeap} {v : Value} {off : Nat} (h : off = 0) : (A.push (.cells false 0 1 [] (T.ofList [v]))).cell A.next off = some v := by
  subst h
  rw [AHeap.cell_new, if_pos (by omega)]
  rfl
end
end Go.Abs
