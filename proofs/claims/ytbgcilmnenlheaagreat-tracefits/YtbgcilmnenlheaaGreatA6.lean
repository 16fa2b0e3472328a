/- What code is to bring about: a calculus in Prop, over environments that are functions. -/
import Derived.Test.YtbgcilmnenlheaaGreatA5
set_option linter.unusedSimpArgs false
set_option linter.unusedVariables false
namespace Go.Abs
open Go
noncomputable section
variable {P : Program}

/-! ### Environments -/
abbrev Rho := Nat → Value
def upd (ρ : Rho) (k : Nat) (v : Value) : Rho := fun j => bif Nat.beq j k then v else ρ j
def rhoOf (tm : T Value) : Rho := fun t => (tm.get t).getD undef
def rhoL (args : List Value) : Rho := fun t => args.getD t undef
theorem rhoOf_set (tm : T Value) (d : Nat) (v : Value) : rhoOf (tm.set d v) = upd (rhoOf tm) d v := by
  funext j
  unfold rhoOf upd
  rw [T.get_set]
  by_cases h : j = d
  · subst h; simp
  · rw [if_neg h]
    have : Nat.beq j d = false := by
      cases e : Nat.beq j d with
      | false => rfl
      | true => exact absurd (Nat.eq_of_beq_eq_true e) h
    rw [this]; rfl
theorem rhoOf_list (args : List Value) : rhoOf (T.ofList args) = rhoL args := by
  funext j
  unfold rhoOf rhoL
  rw [T.get_ofList, List.getD_eq_getElem?_getD]
def evR (ρ : Rho) : Operand → Option Value
  | .tmp t => some (ρ t)
  | .const v => bif flat v then some v else none
  | .func f => some (.func (.func f) #[] #[])
  | .global _ => none
theorem evR_of (tm : T Value) : evR (rhoOf tm) = opE tm := by
  funext x
  cases x with
  | const v => simp only [evR, opE]; cases flat v <;> rfl
  | _ => rfl

/-! ### Words -/
def wE (e : Option Value) (k : Value → Prop) : Prop := match e with
  | some v => k v
  | none => False
def wO {α : Type} (e : Option α) (k : α → Prop) : Prop := ∃ x, e = some x ∧ k x
def wO2 (e : Option (Value × AHeap)) (k : Value → AHeap → Prop) : Prop := ∃ v A, e = some (v, A) ∧ k v A
def wIf (v : Value) (p q : Prop) : Prop := ∃ t, v = .bool t ∧ (t = true → p) ∧ (t = false → q)
def wG (v : Value) (b : Bool) (p q : Prop) : Prop := (v = .bool b → p) ∧ (v ≠ .bool b → q)
def wPick (c x y : Value) (k : Value → Prop) : Prop := ∃ t, c = .bool t ∧ k (bif t then x else y)
def wFn (v : Value) (k : FuncId → Array Value → Array Value → Prop) : Prop := match v with
  | .func (.func f) first cap => k f first cap
  | _ => False
def wPut (n : Nat) (ρ : Rho) (dst : Option Tmp) (v : Value) (k : Rho → Prop) : Prop := match dst with
  | none => k ρ
  | some d => bif Nat.blt d n then k (upd ρ d v) else False

theorem wE_of {e : Option Value} {k : Value → Prop} (h : wE e k) : ∃ v, e = some v ∧ k v := by
  unfold wE at h; split at h
  · exact ⟨_, rfl, h⟩
  · exact h.elim

def wEs (ρ : Rho) (l : List Operand) : (List Value → Prop) → Prop :=
  List.rec (motive := fun _ => (List Value → Prop) → Prop) (fun k => k []) (fun x _ ih k => wE (evR ρ x) fun v => ih fun l => k (v :: l)) l
theorem wEs_of {ρ : Rho} {l : List Operand} {k : List Value → Prop} (h : wEs ρ l k) : ∃ vs, evList (evR ρ) l = some vs ∧ k vs := by
  induction l generalizing k with
  | nil => exact ⟨[], rfl, h⟩
  | cons x r ih =>
    obtain ⟨v, hv, h1⟩ := wE_of (k := fun v => wEs ρ r fun l => k (v :: l)) h
    obtain ⟨vs, hvs, h2⟩ := ih h1
    exact ⟨v :: vs, by simp only [evList, hv, hvs], h2⟩
def wParts (ρ : Rho) (l : List (Nat × Operand)) : (List (Nat × Value) → Prop) → Prop :=
  List.rec (motive := fun _ => (List (Nat × Value) → Prop) → Prop) (fun k => k []) (fun p _ ih k => wE (evR ρ p.2) fun v => ih fun l => k ((p.1, v) :: l)) l
theorem wParts_of {ρ : Rho} {l : List (Nat × Operand)} {k : List (Nat × Value) → Prop} (h : wParts ρ l k) : ∃ vs, evParts (evR ρ) l = some vs ∧ k vs := by
  induction l generalizing k with
  | nil => exact ⟨[], rfl, h⟩
  | cons x r ih =>
    obtain ⟨i, x⟩ := x
    obtain ⟨v, hv, h1⟩ := wE_of (k := fun v => wParts ρ r fun l => k ((i, v) :: l)) h
    obtain ⟨vs, hvs, h2⟩ := ih h1
    exact ⟨(i, v) :: vs, by simp only [evParts, hv, hvs], h2⟩
def wOpt (ρ : Rho) (l : Option Operand) (k : Option Value → Prop) : Prop := match l with
  | none => k none
  | some x => wE (evR ρ x) fun v => k (some v)
theorem wOpt_of {ρ : Rho} {l : Option Operand} {k : Option Value → Prop} (h : wOpt ρ l k) : ∃ v, evOpt (evR ρ) l = some v ∧ k v := by
  cases l with
  | none => exact ⟨none, rfl, h⟩
  | some x =>
    obtain ⟨v, hv, h1⟩ := wE_of h
    exact ⟨some v, by simp only [evOpt, hv], h1⟩

/-! ### Operations -/
def wOp (E : Env P) (o : Oper) (ρ : Rho) (A : AHeap) (k : Value → AHeap → Prop) : Prop :=
  match o.op with
  | .move x | .assign x => wE (evR ρ x) fun v => k v A
  | .pick c a b => wE (evR ρ c) fun c => wE (evR ρ a) fun x => wE (evR ρ b) fun y => wPick c x y fun v => k v A
  | .alloc t => wO2 (aAlloc E t A) k
  | .box _ x => wE (evR ρ x) fun v => k (aBox v A).1 (aBox v A).2
  | .build t parts => wParts ρ parts.toList fun ps => wO (aBuild E t ps) fun v => k v A
  | .buildSlice t len parts => wParts ρ parts.toList fun ps => wO2 (aBuildSlice E t len ps A) k
  | .load t x => wE (evR ρ x) fun p => wO (aLoad E t p A) fun v => k v A
  | .store t x y => wE (evR ρ x) fun p => wE (evR ρ y) fun v => wO (aStore E t p v A) fun A' => k undef A'
  | .nilCheck x => wE (evR ρ x) fun p => wO (aNilCheck p) fun v => k v A
  | .binOp op t x y _ => wE (evR ρ x) fun p => wE (evR ρ y) fun q => wO (aBin E op t p q) fun v => k v A
  | .unOp op _ x => wE (evR ρ x) fun p => wO (aUn op p) fun v => k v A
  | .convert s d x => wE (evR ρ x) fun p => wO (aConvert E s d p A) fun v => k v A
  | .makeFunc (.func f) first captured => wEs ρ first.toList fun a => wEs ρ captured.toList fun c => k (.func (.func f) a.toArray c.toArray) A
  | .makeMap _ none => k (.map (some A.next)) (A.push (.map []))
  | .makeSlice t l c => wE (evR ρ l) fun x => wE (evR ρ c) fun y => wO2 (aMakeSlice E t x y A) k
  | .slice t x lo hi mx => wE (evR ρ x) fun v => wOpt ρ lo fun l => wOpt ρ hi fun h => wOpt ρ mx fun m => wO (aSlice E t v l h m A) fun r => k r A
  | .fieldAddr t x f => wE (evR ρ x) fun p => wO (aFieldAddr E t p f) fun v => k v A
  | .field t x f => wE (evR ρ x) fun p => wO (aField E t p f) fun v => k v A
  | .indexAddr t x i => wE (evR ρ x) fun p => wE (evR ρ i) fun q => wO (aIndexAddr E t p q) fun v => k v A
  | .index t x i => wE (evR ρ x) fun p => wE (evR ρ i) fun q => wO (aIndex E t p q) fun v => k v A
  | .lookup t m x ok => wE (evR ρ m) fun p => wE (evR ρ x) fun q => wO (aLookup E t p q ok A) fun v => k v A
  | .mapUpdate t m x v | .insert t m x v => wE (evR ρ m) fun p => wE (evR ρ x) fun q => wE (evR ρ v) fun r => wO (aMapUpdate E t p q r A) fun A' => k undef A'
  | .extract x i => wE (evR ρ x) fun p => wO (aExtract p i) fun v => k v A
  | .call c => match c.callee with
    | .builtin b => wEs ρ c.args.toList fun l => wO2 (aBuiltin E b c.argTypes l A) k
    | _ => False
  | _ => False

theorem wOp_of {E : Env P} {o : Oper} {ρ : Rho} {A : AHeap} {k : Value → AHeap → Prop} (h : wOp E o ρ A k) : ∃ v A', aop E o (evR ρ) A = some (v, A') ∧ k v A' := by
  unfold wOp at h
  unfold aop
  generalize o.op = op at h
  cases op <;> try exact h.elim
  case move x => obtain ⟨v, hv, h⟩ := wE_of h; exact ⟨v, A, by simp only [hv], h⟩
  case assign x => obtain ⟨v, hv, h⟩ := wE_of h; exact ⟨v, A, by simp only [hv], h⟩
  case pick c a b =>
    obtain ⟨c', hc, h⟩ := wE_of h
    obtain ⟨x, hx, h⟩ := wE_of h
    obtain ⟨y, hy, t, e, hk⟩ := wE_of h
    subst e
    refine ⟨bif t then x else y, A, ?_, hk⟩
    simp only [hc, hx, hy]
    cases t <;> rfl
  case alloc t => obtain ⟨v, A', h1, h2⟩ := h; exact ⟨v, A', h1, h2⟩
  case box t x => obtain ⟨v, hv, h⟩ := wE_of h; exact ⟨_, _, by simp only [hv], h⟩
  case build t ps => obtain ⟨l, hl, v, hv, h⟩ := wParts_of h; exact ⟨v, A, by simp only [hl, hv], h⟩
  case buildSlice t n ps => obtain ⟨l, hl, v, A', hv, h⟩ := wParts_of h; exact ⟨v, A', by simp only [hl, hv], h⟩
  case load t x => obtain ⟨p, hp, v, hv, h⟩ := wE_of h; exact ⟨v, A, by simp only [hp, hv], h⟩
  case store t x y =>
    obtain ⟨p, hp, h⟩ := wE_of h
    obtain ⟨q, hq, A', hv, h⟩ := wE_of h
    exact ⟨undef, A', by simp only [hp, hq, hv], h⟩
  case nilCheck x => obtain ⟨p, hp, v, hv, h⟩ := wE_of h; exact ⟨v, A, by simp only [hp, hv], h⟩
  case binOp op t x y u =>
    obtain ⟨p, hp, h⟩ := wE_of h
    obtain ⟨q, hq, v, hv, h⟩ := wE_of h
    exact ⟨v, A, by simp only [hp, hq, hv], h⟩
  case unOp op t x => obtain ⟨p, hp, v, hv, h⟩ := wE_of h; exact ⟨v, A, by simp only [hp, hv], h⟩
  case convert s d x => obtain ⟨p, hp, v, hv, h⟩ := wE_of h; exact ⟨v, A, by simp only [hp, hv], h⟩
  case makeFunc fn a c =>
    cases fn <;> try exact h.elim
    obtain ⟨l, hl, h⟩ := wEs_of h
    obtain ⟨m, hm, h⟩ := wEs_of h
    exact ⟨_, A, by simp only [hl, hm], h⟩
  case makeMap t r =>
    cases r with
    | none => exact ⟨_, _, rfl, h⟩
    | some x => exact h.elim
  case makeSlice t x y =>
    obtain ⟨p, hp, h⟩ := wE_of h
    obtain ⟨q, hq, v, A', hv, h⟩ := wE_of h
    exact ⟨v, A', by simp only [hp, hq, hv], h⟩
  case slice t x lo hi mx =>
    obtain ⟨p, hp, h⟩ := wE_of h
    obtain ⟨a, ha, h⟩ := wOpt_of h
    obtain ⟨b, hb, h⟩ := wOpt_of h
    obtain ⟨c, hc, v, hv, h⟩ := wOpt_of h
    exact ⟨v, A, by simp only [hp, ha, hb, hc, hv], h⟩
  case fieldAddr t x f => obtain ⟨p, hp, v, hv, h⟩ := wE_of h; exact ⟨v, A, by simp only [hp, hv], h⟩
  case field t x f => obtain ⟨p, hp, v, hv, h⟩ := wE_of h; exact ⟨v, A, by simp only [hp, hv], h⟩
  case indexAddr t x y =>
    obtain ⟨p, hp, h⟩ := wE_of h
    obtain ⟨q, hq, v, hv, h⟩ := wE_of h
    exact ⟨v, A, by simp only [hp, hq, hv], h⟩
  case index t x y =>
    obtain ⟨p, hp, h⟩ := wE_of h
    obtain ⟨q, hq, v, hv, h⟩ := wE_of h
    exact ⟨v, A, by simp only [hp, hq, hv], h⟩
  case lookup t x y ok =>
    obtain ⟨p, hp, h⟩ := wE_of h
    obtain ⟨q, hq, v, hv, h⟩ := wE_of h
    exact ⟨v, A, by simp only [hp, hq, hv], h⟩
  case mapUpdate t x y z =>
    obtain ⟨p, hp, h⟩ := wE_of h
    obtain ⟨q, hq, h⟩ := wE_of h
    obtain ⟨r, hr, A', hv, h⟩ := wE_of h
    exact ⟨undef, A', by simp only [hp, hq, hr, hv], h⟩
  case insert t x y z =>
    obtain ⟨p, hp, h⟩ := wE_of h
    obtain ⟨q, hq, h⟩ := wE_of h
    obtain ⟨r, hr, A', hv, h⟩ := wE_of h
    exact ⟨undef, A', by simp only [hp, hq, hr, hv], h⟩
  case extract x i => obtain ⟨p, hp, v, hv, h⟩ := wE_of h; exact ⟨v, A, by simp only [hp, hv], h⟩
  case call c =>
    cases hc : c.callee with
    | builtin b =>
      simp only [hc] at h ⊢
      obtain ⟨l, hl, v, A', hv, h⟩ := wEs_of h
      exact ⟨v, A', by simp only [hl, hv], h⟩
    | value f => simp only [hc] at h
    | invoke a b => simp only [hc] at h

/-! ### Calls -/
variable (E : Env P) (X0 : Ext0)
def wApp (fv : Value) (args : List Value) (A : AHeap) (k : Value → AHeap → Prop) : Prop := ∃ v A', BS E X0 (.app fv args A v A') ∧ Low A A' ∧ k v A'
/-- A call that turns nothing. -/
def wAppQ (fv : Value) (args : List Value) (A : AHeap) (k : Value → AHeap → Prop) : Prop := ∃ v A', BS E X0 (.app fv args A v A') ∧ Low A A' ∧ (∀ j, j < A.next → A'.obj j = A.obj j) ∧ k v A'
def wCall (f : FuncId) (args : List Value) (A : AHeap) (k : Value → AHeap → Prop) : Prop := ∃ v A', BS E X0 (.call f args A v A') ∧ Low A A' ∧ k v A'
def wYld (l : Nat) (args : List Value) (A : AHeap) (k : Value → AHeap → Prop) : Prop := ∃ v A', BS E X0 (.yld l args A v A') ∧ Low A A' ∧ k v A'

/-- An operation, or a call; no deferred one. -/
def wStep (n : Nat) (o : Oper) (ρ : Rho) (A : AHeap) (k : Rho → AHeap → Prop) : Prop :=
  match o.op with
  | .call c => match c.callee with
    | .value f => wE (evR ρ f) fun fv => wEs ρ c.args.toList fun args => wApp E X0 fv args A fun v A' => wPut n ρ o.dst v fun ρ' => k ρ' A'
    | _ => wOp E o ρ A fun v A' => wPut n ρ o.dst v fun ρ' => k ρ' A'
  | _ => wOp E o ρ A fun v A' => wPut n ρ o.dst v fun ρ' => k ρ' A'
def wWants (ops : Array Oper) (o : Oper) (ρ : Rho) (Y N : Prop) : Prop :=
  match o.guard with
  | none => Y
  | some (j, b) => match (ops[j]?).bind (·.dst) with
    | some d => wG (ρ d) b Y N
    | none => N

abbrev KTP := List Deferred → Rho → AHeap → Prop
abbrev KXP := AExit → List Deferred → Rho → AHeap → Prop

/-- With deferred calls. -/
def wStepD (rd : Option Nat) (n : Nat) (o : Oper) (ds : List Deferred) (ρ : Rho) (A : AHeap) (k : KTP) : Prop :=
  match o.op with
  | .defer c => match c.callee, rd with
    | .value f, none => wE (evR ρ f) fun fv => wEs ρ c.args.toList fun args => wFn fv fun fn first cap => wPut n ρ o.dst undef fun ρ' => k ({ target := .fn (.func fn) cap, args := first ++ args.toArray } :: ds) ρ' A
    | _, _ => False
  | _ => wStep E X0 n o ρ A fun ρ' A' => k ds ρ' A'

def opsW (rd : Option Nat) (n : Nat) (ops : Array Oper) (l : List Oper) : KTP → List Deferred → Rho → AHeap → Prop :=
  List.rec (motive := fun _ => KTP → List Deferred → Rho → AHeap → Prop) (fun K ds ρ A => K ds ρ A)
    (fun o _ ih K ds ρ A => wWants ops o ρ (wStepD E X0 rd n o ds ρ A (ih K)) (wPut n ρ o.dst undef fun ρ' => ih K ds ρ' A)) l

/-! ### Regions whose order is drawn -/
def wAg (ag : List Oper) (ρ : Rho) (A : AHeap) (k : Prop) : Prop :=
  List.rec (motive := fun _ => Prop) k (fun o _ ih => match o.dst with
    | some d => wOp E o ρ A fun v _ => v = ρ d ∧ ih
    | none => False) ag
def wStepQ (n : Nat) (o : Oper) (ρ : Rho) (A : AHeap) (k : Rho → AHeap → Prop) : Prop :=
  match o.op with
  | .call c => match c.callee with
    | .value f => wE (evR ρ f) fun fv => wEs ρ c.args.toList fun args => wAppQ E X0 fv args A fun v A' => wPut n ρ o.dst v fun ρ' => k ρ' A'
    | _ => False
  | _ => False
def wTag (n : Nat) (A0 : AHeap) (g : Nat) (o : Oper) (ρ : Rho) (A : AHeap) (k : Rho → AHeap → Prop) : Prop :=
  bif Nat.beq g 5 then wOp E o ρ A0 fun v _ => wPut n ρ o.dst v fun ρ' => k ρ' A
  else bif Nat.beq g 3 then wStepQ E X0 n o ρ A k
  else wStep E X0 n o ρ A k
def runW (n : Nat) (ops : Array Oper) (A0 : AHeap) (ag : List Oper) (l : List (Nat × Oper)) : Rho → AHeap → (Rho → AHeap → Prop) → Prop :=
  List.rec (motive := fun _ => Rho → AHeap → (Rho → AHeap → Prop) → Prop) (fun ρ A K => wAg E ag ρ A (K ρ A))
    (fun p _ ih ρ A K => bif Nat.beq p.1 4 then wAg E ag ρ A (wWants ops p.2 ρ (wTag E X0 n A0 p.1 p.2 ρ A fun ρ A => ih ρ A K) (wPut n ρ p.2.dst undef fun ρ' => ih ρ' A K))
      else wWants ops p.2 ρ (wTag E X0 n A0 p.1 p.2 ρ A fun ρ A => ih ρ A K) (wPut n ρ p.2.dst undef fun ρ' => ih ρ' A K)) l
def drawAt (n : Nat) (ops : Array Oper) (m : Nat) (ρ : Rho) (A : AHeap) (K : Rho → AHeap → Prop) : Prop :=
  bif planOk E ops m then runW E X0 n ops A (againOf E ops.toList (masks ops.toList 0 .e) m ops.size ops.toList 0) (tagL E ops.toList (masks ops.toList 0 .e) m ops.toList 0) ρ A K else False
def drawW (hm : FuncId → Nat → Option Nat) (fn : FuncId) (n : Nat) (id : Nat) (ops : Array Oper) (ρ : Rho) (A : AHeap) (K : Rho → AHeap → Prop) : Prop :=
  drawAt E X0 n ops ((hm fn id).getD (mFind E ops)) ρ A K

/-! ### Code -/
def loopW (a : KTP → KXP → List Deferred → Rho → AHeap → Prop) (X : KXP) (n : Nat) : List Deferred → Rho → AHeap → Prop :=
  Nat.rec (motive := fun _ => List Deferred → Rho → AHeap → Prop) (fun _ _ _ => False) (fun _ self ds ρ A => a self X ds ρ A) n
def wLoop (a : KTP → KXP → List Deferred → Rho → AHeap → Prop) (X : KXP) (ds : List Deferred) (ρ : Rho) (A : AHeap) : Prop := ∃ n, loopW a X n ds ρ A
def wBlk (id : Nat) (K : KTP) (X : KXP) (e : AExit) : KTP := AExit.rec (motive := fun _ => KTP) (fun _ _ _ => False) (fun id' ds ρ A => bif Nat.beq id' id then K ds ρ A else X (.exit id') ds ρ A) (X .ret) e
def wJump (pd : Option Code) (K : KTP) (X : KXP) : KTP := match pd with
  | none => K
  | some .ret => X .ret
  | some (.exit id) => X (.exit id)
  | _ => fun _ _ _ => False

def wRange (fn : FuncId) (rd : Option Nat) (n : Nat) (f : Operand) (params : Array Tmp) (asg body : Code) (K : KTP) (X : KXP) (ds : List Deferred) (ρ : Rho) (A : AHeap) : Prop :=
  wE (evR ρ f) fun fv => wFn fv fun _ _ _ => wO (loopsAround A rd) fun D => ∀ tm, rhoOf tm = ρ →
    wApp E X0 fv [.func (.yield (A.start ⟨fn, rd, n, tm, ds⟩ params asg body D).2.1) #[] #[]] (A.start ⟨fn, rd, n, tm, ds⟩ params asg body D).1 fun _ A2 =>
      ∃ r, A2.obj (A.start ⟨fn, rd, n, tm, ds⟩ params asg body D).2.1 = some (.loop r) ∧ r.state ≠ .busy ∧
        wJump r.pending K X (A.start ⟨fn, rd, n, tm, ds⟩ params asg body D).2.2 ρ (A2.set (A.start ⟨fn, rd, n, tm, ds⟩ params asg body D).2.1 (.loop { r with state := .exhausted }))

def wpC (hm : FuncId → Nat → Option Nat) (fn : FuncId) (rd : Option Nat) (n : Nat) (c : Code) : KTP → KXP → List Deferred → Rho → AHeap → Prop :=
  Code.rec (motive := fun _ => KTP → KXP → List Deferred → Rho → AHeap → Prop)
    (fun K _ ds ρ A => K ds ρ A)
    (fun id ops d K _ ds ρ A => Bool.rec (motive := fun _ => Prop) (opsW E X0 rd n ops ops.toList K ds ρ A) (drawW E X0 hm fn n id ops ρ A fun ρ A => K ds ρ A) d)
    (fun _ _ a b K X ds ρ A => a (fun ds ρ A => b K X ds ρ A) X ds ρ A)
    (fun x _ _ a b K X ds ρ A => wE (evR ρ x) fun v => wIf v (a K X ds ρ A) (b K X ds ρ A))
    (fun id _ a K X ds ρ A => a K (wBlk id K X) ds ρ A)
    (fun _ a _ X ds ρ A => wLoop a X ds ρ A)
    (fun f params asg body _ _ K X ds ρ A => wRange E X0 fn rd n f params asg body K X ds ρ A)
    (fun id _ X ds ρ A => X (.exit id) ds ρ A)
    (fun _ _ _ _ _ _ _ => False)
    (fun _ K _ ds ρ A => K ds ρ A)
    (fun _ _ _ _ _ _ => False)
    (fun _ X ds ρ A => X .ret ds ρ A)
    (fun _ _ _ _ _ _ => False) c

def wLeave (ds : List Deferred) : AHeap → (AHeap → Prop) → Prop :=
  List.rec (motive := fun _ => AHeap → (AHeap → Prop) → Prop) (fun A K => K A) (fun d _ ih A K => match d.target with
    | .collected D => A.obj D = some .marks ∧ ih (A.set D .dead) K
    | .fn (.func fn) cap => wCall E X0 fn (d.args.toList ++ cap.toList) A fun _ A => ih A K
    | _ => False) ds
def wRes (rs : List ResultVar) : Rho → AHeap → (List Value → Prop) → Prop :=
  List.rec (motive := fun _ => Rho → AHeap → (List Value → Prop) → Prop) (fun _ _ K => K [])
    (fun r _ ih ρ A K => match r with
      | .tmp t => ih ρ A fun l => K (ρ t :: l)
      | .cell a ty => wO (aLoad E ty (ρ a) A) fun v => ih ρ A fun l => K (v :: l)) rs
def wFin (rs : List ResultVar) (K : Value → AHeap → Prop) (ds : List Deferred) (ρ : Rho) (A : AHeap) : Prop := wLeave E X0 ds A fun A => wRes E rs ρ A fun l => K (oneOf l) A
def wEnd (rs : List ResultVar) (K : Value → AHeap → Prop) (e : AExit) : KTP := match e with
  | .ret => wFin E X0 rs K
  | _ => fun _ _ _ => False
/-- A function's body. -/
def wBody (hm : FuncId → Nat → Option Nat) (f : FuncId) (fn : Func) (args : List Value) (A : AHeap) (K : Value → AHeap → Prop) : Prop :=
  match fn.body with
  | some c => wpC E X0 hm f none (args.length + (fn.ntmps - args.length)) c (wFin E X0 fn.results.toList K) (wEnd E X0 fn.results.toList K) [] (rhoL args) A
  | none => False

end
end Go.Abs

/- The calculus is sound. -/
namespace Go.Abs
open Go
noncomputable section
variable {P : Program} {E : Env P} {X0 : Ext0}

theorem wOp_tm {o : Oper} {tm : T Value} {A : AHeap} {k : Value → AHeap → Prop} (h : wOp E o (rhoOf tm) A k) : ∃ v A', aop E o (opE tm) A = some (v, A') ∧ k v A' := by
  obtain ⟨v, A', h1, h2⟩ := wOp_of h
  rw [evR_of] at h1
  exact ⟨v, A', h1, h2⟩
theorem wEs_tm {l : List Operand} {tm : T Value} {k : List Value → Prop} (h : wEs (rhoOf tm) l k) : ∃ vs, evList (opE tm) l = some vs ∧ k vs := by
  obtain ⟨vs, h1, h2⟩ := wEs_of h
  rw [evR_of] at h1
  exact ⟨vs, h1, h2⟩
theorem wE_tm {x : Operand} {tm : T Value} {k : Value → Prop} (h : wE (evR (rhoOf tm) x) k) : ∃ v, opE tm x = some v ∧ k v := by
  obtain ⟨v, h1, h2⟩ := wE_of h
  rw [evR_of] at h1
  exact ⟨v, h1, h2⟩
theorem wPut_tm {n : Nat} {tm : T Value} {dst : Option Tmp} {v : Value} {k : Rho → Prop} (h : wPut n (rhoOf tm) dst v k) : ∃ tm', putT n tm dst v = some tm' ∧ k (rhoOf tm') := by
  cases dst with
  | none => exact ⟨tm, rfl, h⟩
  | some d =>
    have h' : (bif Nat.blt d n then k (upd (rhoOf tm) d v) else False) := h
    cases e : Nat.blt d n with
    | false => rw [e] at h'; exact h'.elim
    | true =>
      rw [e] at h'
      refine ⟨tm.set d v, by simp only [putT]; rw [if_pos (Nat.lt_of_succ_le (Nat.le_of_ble_eq_true e))], ?_⟩
      rw [rhoOf_set]; exact h'
theorem wWants_tm {c : Ctx} {ops : Array Oper} {o : Oper} {tm : T Value} {Y N : Prop} (h : wWants ops o (rhoOf tm) Y N) :
    ((c.st tm).wants ops o = true ∧ Y) ∨ ((c.st tm).wants ops o = false ∧ N) := by
  unfold wWants at h
  unfold St.wants
  cases hg : o.guard with
  | none => rw [hg] at h; exact .inl ⟨rfl, h⟩
  | some g =>
    obtain ⟨j, b⟩ := g
    rw [hg] at h
    simp only at h ⊢
    cases hd : (ops[j]?).bind (·.dst) with
    | none => rw [hd] at h; exact .inr ⟨rfl, h⟩
    | some d =>
      rw [hd] at h
      obtain ⟨h1, h2⟩ := h
      show (((boolOf (tm.get d) == some b) = true) ∧ Y) ∨ (((boolOf (tm.get d) == some b) = false) ∧ N)
      by_cases hv : rhoOf tm d = .bool b
      · refine .inl ⟨?_, h1 hv⟩
        unfold rhoOf at hv
        cases e : tm.get d with
        | none => rw [e] at hv; cases hv
        | some v => rw [e] at hv; have hv : v = .bool b := hv; subst hv; simp [boolOf]
      · refine .inr ⟨?_, h2 hv⟩
        unfold rhoOf at hv
        cases e : tm.get d with
        | none => rfl
        | some v =>
          rw [e] at hv
          have hv : v ≠ .bool b := hv
          unfold boolOf
          split
          · rename_i t ht
            have := Option.some.inj ht
            subst this
            have : t ≠ b := fun e => hv (by rw [e])
            cases t <;> cases b <;> simp_all
          · rfl

/-- One operation, or call. -/
inductive StepRes (E : Env P) (X0 : Ext0) (n : Nat) (o : Oper) (tm : T Value) (A : AHeap) (k : Rho → AHeap → Prop) : Prop where
  | aop {v A' tm'} (h : aop E o (opE tm) A = some (v, A')) (hp : putT n tm o.dst v = some tm') (hk : k (rhoOf tm') A')
  | call {ca f fv args v A' tm'} (ho : o.op = .call ca) (hc : ca.callee = .value f) (hf : opE tm f = some fv) (ha : evList (opE tm) ca.args.toList = some args) (hi : BS E X0 (.app fv args A v A')) (hl : Low A A')
      (hp : putT n tm o.dst v = some tm') (hk : k (rhoOf tm') A')

theorem wStep_tm {n : Nat} {o : Oper} {tm : T Value} {A : AHeap} {k : Rho → AHeap → Prop} (h : wStep E X0 n o (rhoOf tm) A k) : StepRes E X0 n o tm A k := by
  have gen : (wOp E o (rhoOf tm) A fun v A' => wPut n (rhoOf tm) o.dst v fun ρ' => k ρ' A') → StepRes E X0 n o tm A k := fun h => by
    obtain ⟨v, A', h1, h2⟩ := wOp_tm h
    obtain ⟨tm', hp, hk⟩ := wPut_tm h2
    exact .aop h1 hp hk
  unfold wStep at h
  split at h
  · rename_i c ho
    split at h
    · rename_i f hc
      obtain ⟨fv, hf, h⟩ := wE_tm h
      obtain ⟨args, ha, v, A', hb, hl, h⟩ := wEs_tm h
      obtain ⟨tm', hp, hk⟩ := wPut_tm h
      exact .call ho hc hf ha hb hl hp hk
    · exact gen h
  · exact gen h

theorem opsW_tm {c : Ctx} {ops : Array Oper} : ∀ {l : List Oper} {i : Nat} {K : KTP} {ds : List Deferred} {tm : T Value} {A : AHeap}, opsW E X0 c.rd c.n ops l K ds (rhoOf tm) A → WF A →
    ∃ ds' tm' A', BS E X0 (.ops ops i l (Ctx.st ⟨c.fn, c.rd, c.n, ds⟩ tm) A (Ctx.st ⟨c.fn, c.rd, c.n, ds'⟩ tm') A') ∧ Low A A' ∧ K ds' (rhoOf tm') A'
  | [], i, K, ds, tm, A, h, hw => ⟨ds, tm, A, .nil, Low.refl hw, h⟩
  | o :: l, i, K, ds, tm, A, h, hw => by
    have h' : wWants ops o (rhoOf tm) (wStepD E X0 c.rd c.n o ds (rhoOf tm) A (opsW E X0 c.rd c.n ops l K)) (wPut c.n (rhoOf tm) o.dst undef fun ρ' => opsW E X0 c.rd c.n ops l K ds ρ' A) := h
    rcases wWants_tm (c := ⟨c.fn, c.rd, c.n, ds⟩) h' with ⟨hwt, h1⟩ | ⟨hwt, h1⟩
    · have step : wStep E X0 c.n o (rhoOf tm) A (fun ρ' A' => opsW E X0 c.rd c.n ops l K ds ρ' A') → ∃ ds' tm' A', BS E X0 (.ops ops i (o :: l) (Ctx.st ⟨c.fn, c.rd, c.n, ds⟩ tm) A (Ctx.st ⟨c.fn, c.rd, c.n, ds'⟩ tm') A') ∧ Low A A' ∧ K ds' (rhoOf tm') A' := fun h2 => by
        cases wStep_tm h2 with
        | aop h3 hp hk =>
          have hl := aop_low h3 hw
          obtain ⟨ds', tm', A', hb, hl', h5⟩ := opsW_tm (i := i + 1) hk hl.wf
          exact ⟨ds', tm', A', .op hwt (by rw [opE_ev]; exact h3) (put_st ⟨c.fn, c.rd, c.n, ds⟩ _ _ _ _ hp) hb, hl.trans hl', h5⟩
        | call ho hc hf ha hi hl hp hk =>
          obtain ⟨ds', tm', A', hb, hl', h5⟩ := opsW_tm (i := i + 1) hk hl.wf
          exact ⟨ds', tm', A', .opCall hwt ho hc (by rw [opE_ev]; exact hf) (by rw [opE_ev]; exact ha) hi (put_st ⟨c.fn, c.rd, c.n, ds⟩ _ _ _ _ hp) hb, hl.trans hl', h5⟩
      unfold wStepD at h1
      split at h1
      · rename_i ca ho
        split at h1
        · rename_i f hc hrd
          obtain ⟨fv, hf, h2⟩ := wE_tm h1
          obtain ⟨args, ha, h3⟩ := wEs_tm h2
          unfold wFn at h3
          split at h3
          · rename_i fn first cap
            obtain ⟨tm1, hp, hk⟩ := wPut_tm h3
            obtain ⟨ds', tm', A', hb, hl', h5⟩ := opsW_tm (i := i + 1) hk hw
            exact ⟨ds', tm', A', .opDefer hwt hrd ho hc (by rw [opE_ev]; exact hf) (by rw [opE_ev]; exact ha) (put_st ⟨c.fn, c.rd, c.n, _⟩ _ _ _ _ hp) hb, hl', h5⟩
          · exact h3.elim
        · exact h1.elim
      · exact step h1
    · obtain ⟨tm1, hp, hk⟩ := wPut_tm h1
      obtain ⟨ds', tm', A', hb, hl', h5⟩ := opsW_tm (i := i + 1) hk hw
      exact ⟨ds', tm', A', .opSkip hwt (put_st ⟨c.fn, c.rd, c.n, ds⟩ _ _ _ _ hp) hb, hl', h5⟩

/-! ### Drawn regions -/
theorem wAg_tm : ∀ {ag : List Oper} {tm : T Value} {A : AHeap} {k : Prop}, wAg E ag (rhoOf tm) A k → (∀ o ∈ ag, AgainOk E tm A o) ∧ k
  | [], tm, A, k, h => ⟨fun _ h => (by cases h), h⟩
  | o :: r, tm, A, k, h => by
    have h' : (match o.dst with
      | some d => wOp E o (rhoOf tm) A fun v _ => v = rhoOf tm d ∧ wAg E r (rhoOf tm) A k
      | none => False) := h
    split at h'
    · rename_i d hd
      obtain ⟨v, A', h1, h2, h3⟩ := wOp_tm h'
      obtain ⟨h4, h5⟩ := wAg_tm h3
      refine ⟨fun o' ho' => ?_, h5⟩
      rcases List.mem_cons.1 ho' with rfl | ho'
      · intro hrd
        have := aop_read hrd h1
        subst this
        exact ⟨d, hd, by rw [h1, h2]; rfl⟩
      · exact h4 o' ho'
    · exact h'.elim

theorem stepOk_aop {c : Ctx} {ops : Array Oper} {A0 : AHeap} {ag : List Oper} {g : Nat} {o : Oper} {s t : T Value} {B B' : AHeap} {v : Value} (hf : TagFit E g o) (hg : g ≠ 3) (hn0 : A0.next ≤ B.next) (hw0 : WF A0) (hw : WF B)
    (hwt : (c.st s).wants ops o = true) (ha : aop E o (opE s) (bif Nat.beq g 5 then A0 else B) = some (v, B')) (hpt : putT c.n s o.dst v = some t) (hag : g = 4 → ∀ o' ∈ ag, AgainOk E s B o') :
    ∃ r, StepOk E X0 c ops A0 ag g o s B r t (bif Nat.beq g 5 then B else B') := by
  have hnc : isCallV o.op = false := by
    cases hb : isCallV o.op with
    | false => rfl
    | true => rw [isCallV_aop hb] at ha; cases ha
  rcases hf with ⟨rfl, hp⟩ | ⟨rfl, hp⟩ | ⟨rfl, hp⟩ | ⟨rfl, hp⟩ | ⟨rfl, hp⟩ | ⟨rfl, hp⟩
  · obtain ⟨e, hall⟩ := aop_pure hp ha
    have e : B' = B := e
    subst e
    exact ⟨⟨A0, A0, v, true, undef, []⟩, { low := Low.refl hw, put := hpt, wants := hwt, un := (by intro h; cases h), op := fun _ _ => hall A0, call := fun _ hc => (by rw [hnc] at hc; cases hc), grow := Nat.le_refl _, lat := (by intro h; cases h), keep := fun _ _ _ => rfl, hs := fun _ => .inl fun _ => rfl, he := fun _ j ob h => .inl h, nexts := fun _ => .inr ⟨rfl, rfl, rfl⟩, stays := fun _ _ _ h => h, made := fun _ j ob h1 h2 => (by have h2 : B'.obj j = some ob := h2; rw [hw.none j h1] at h2; cases h2), maker := fun _ h => absurd rfl h }⟩
  · obtain ⟨ob, e, hall⟩ := aop_new hp ha
    have e : B' = B.push ob := e
    subst e
    refine ⟨⟨⟨A0.t, B.next, B.lw⟩, (⟨A0.t, B.next, B.lw⟩ : AHeap).push ob, v, true, undef, []⟩, { low := hw.push' _, put := hpt, wants := hwt, un := (by intro h; cases h), op := fun _ _ => hall _ rfl, call := fun _ hc => (by rw [hnc] at hc; cases hc), grow := by simp, lat := (by intro h; cases h), keep := fun _ j hj => (by show (B.push ob).obj j = _; rw [AHeap.obj_push, if_neg (by omega)]), hs := fun _ => .inl fun _ => rfl, he := fun _ j ob' h => ?_, nexts := fun _ => .inl ⟨rfl, rfl⟩, stays := fun _ j ob' h => ?_, made := fun _ j ob' h1 h2 => ?_, maker := fun _ _ => .inl hp }⟩
    · rw [AHeap.obj_push] at h
      by_cases e : j = B.next
      · rw [if_pos e] at h
        right; show (B.push ob).obj j = _; rw [AHeap.obj_push, if_pos e]; exact h
      · rw [if_neg e] at h; exact .inl h
    · have hj := hw0.lt (i := j) h
      rw [AHeap.obj_push, if_neg (by show j ≠ B.next; omega)]; exact h
    · have h2 : (B.push ob).obj j = some ob' := h2
      rw [AHeap.obj_push] at h2 ⊢
      by_cases e : j = B.next
      · rw [if_pos e] at h2 ⊢; exact h2
      · rw [if_neg e, hw.none j h1] at h2; cases h2
  · have e := aop_read hp ha
    have e : B' = B := e
    subst e
    exact ⟨⟨B', B', v, true, undef, []⟩, { low := Low.refl hw, put := hpt, wants := hwt, un := (by intro h; cases h), op := fun _ _ => ha, call := fun _ hc => (by rw [hnc] at hc; cases hc), grow := Nat.le_refl _, lat := (by intro h; cases h), keep := fun _ _ _ => rfl, hs := fun _ => .inr ⟨fun _ => rfl, .inl rfl⟩, he := fun _ j ob h => .inr h, nexts := fun _ => .inl ⟨rfl, rfl⟩, stays := fun _ _ _ h => h, made := fun _ j ob h1 h2 => h2, maker := fun _ h => absurd rfl h }⟩
  · exact absurd rfl hg
  · have hl : Low B B' := aop_low ha hw
    exact ⟨⟨B, B', v, true, undef, []⟩, { low := hl, put := hpt, wants := hwt, un := (by intro h; cases h), op := fun _ _ => ha, call := fun _ hc => (by rw [hnc] at hc; cases hc), grow := hl.next, lat := fun h => ⟨rfl, rfl, hag h⟩, keep := fun h => absurd rfl h, hs := fun h => absurd rfl h, he := fun h => absurd rfl h, nexts := fun h => absurd rfl h, stays := fun h => absurd rfl h, made := fun h => absurd rfl h, maker := fun h => absurd rfl h }⟩
  · have e := aop_read hp ha
    have e : B' = A0 := e
    subst e
    exact ⟨⟨B', B', v, true, undef, []⟩, { low := Low.refl hw, put := hpt, wants := hwt, un := (by intro h; cases h), op := fun _ _ => ha, call := fun _ hc => (by rw [hnc] at hc; cases hc), grow := Nat.le_refl _, lat := (by intro h; cases h), keep := fun _ _ _ => rfl, hs := fun _ => .inl fun _ => rfl, he := fun _ j ob h => .inl h, nexts := fun _ => .inr ⟨rfl, rfl, rfl⟩, stays := fun _ _ _ h => h, made := fun _ j ob h1 h2 => (by have h2 : B.obj j = some ob := h2; rw [hw.none j h1] at h2; cases h2), maker := fun _ h => absurd rfl h }⟩

theorem stepOk_call {c : Ctx} {ops : Array Oper} {A0 : AHeap} {ag : List Oper} {g : Nat} {o : Oper} {s t : T Value} {B C : AHeap} {v fv : Value} {args : List Value} {ca : Call} {f : Operand} (hf : g = 3 ∨ g = 4)
    (hwt : (c.st s).wants ops o = true) (ho : o.op = .call ca) (hc : ca.callee = .value f) (he : opE s f = some fv) (ha : evList (opE s) ca.args.toList = some args) (hi : BS E X0 (.app fv args B v C)) (hl : Low B C)
    (hk : g = 3 → ∀ j, j < B.next → C.obj j = B.obj j) (hw : WF B) (hpt : putT c.n s o.dst v = some t) (hag : g = 4 → ∀ o' ∈ ag, AgainOk E s B o') :
    ∃ r, StepOk E X0 c ops A0 ag g o s B r t C := by
  have hp := isCallV_of ho hc
  rcases hf with rfl | rfl
  · refine ⟨⟨B, C, v, true, fv, args⟩, { low := hl, put := hpt, wants := hwt, un := (by intro h; cases h), op := fun _ hnc => (by rw [hp] at hnc; cases hnc), call := fun _ _ => ⟨ca, f, ho, hc, he, ha, hi⟩, grow := hl.next, lat := (by intro h; cases h), keep := fun _ j hj => hk rfl j hj, hs := fun _ => .inr ⟨fun _ => rfl, .inr rfl⟩, he := fun _ j ob h => .inr h, nexts := fun _ => .inl ⟨rfl, rfl⟩, stays := fun _ j ob h => ?_, made := fun _ j ob h1 h2 => h2, maker := fun _ _ => .inr hp }⟩
    exact (hk rfl j (hw.lt h)).trans h
  · exact ⟨⟨B, C, v, true, fv, args⟩, { low := hl, put := hpt, wants := hwt, un := (by intro h; cases h), op := fun _ hnc => (by rw [hp] at hnc; cases hnc), call := fun _ _ => ⟨ca, f, ho, hc, he, ha, hi⟩, grow := hl.next, lat := fun h => ⟨rfl, rfl, hag h⟩, keep := fun h => absurd rfl h, hs := fun h => absurd rfl h, he := fun h => absurd rfl h, nexts := fun h => absurd rfl h, stays := fun h => absurd rfl h, made := fun h => absurd rfl h, maker := fun h => absurd rfl h }⟩

theorem stepOk_un {c : Ctx} {ops : Array Oper} {A0 : AHeap} {ag : List Oper} {g : Nat} {o : Oper} {s t : T Value} {B : AHeap} (hwt : (c.st s).wants ops o = false) (hw : WF B) (hpt : putT c.n s o.dst undef = some t)
    (hag : g = 4 → ∀ o' ∈ ag, AgainOk E s B o') : ∃ r, StepOk E X0 c ops A0 ag g o s B r t B := by
  by_cases hg : g = 4
  · exact ⟨⟨B, B, undef, false, undef, []⟩, { low := Low.refl hw, put := hpt, wants := hwt, un := fun _ => ⟨rfl, rfl⟩, op := (by intro h; cases h), call := (by intro h; cases h), grow := Nat.le_refl _, lat := fun h => ⟨rfl, rfl, hag h⟩, keep := fun _ _ _ => rfl, hs := fun h => absurd hg h, he := fun h => absurd hg h, nexts := fun h => absurd hg h, stays := fun h => absurd hg h, made := fun h => absurd hg h, maker := fun h => absurd hg h }⟩
  · exact ⟨⟨A0, A0, undef, false, undef, []⟩, { low := Low.refl hw, put := hpt, wants := hwt, un := fun _ => ⟨rfl, rfl⟩, op := (by intro h; cases h), call := (by intro h; cases h), grow := Nat.le_refl _, lat := fun h => absurd h hg, keep := fun _ _ _ => rfl, hs := fun _ => .inl fun _ => rfl, he := fun _ j ob h => .inl h, nexts := fun _ => .inr ⟨rfl, rfl, rfl⟩, stays := fun _ _ _ h => h, made := fun _ j ob h1 h2 => (by rw [hw.none j h1] at h2; cases h2), maker := fun _ h => absurd rfl h }⟩

theorem wTag_tm {c : Ctx} {ops : Array Oper} {A0 : AHeap} {ag : List Oper} {g : Nat} {o : Oper} {s : T Value} {B : AHeap} {k : Rho → AHeap → Prop} (hf : TagFit E g o) (hn0 : A0.next ≤ B.next) (hw0 : WF A0) (hw : WF B)
    (hag : g = 4 → ∀ o' ∈ ag, AgainOk E s B o') (h : wWants ops o (rhoOf s) (wTag E X0 c.n A0 g o (rhoOf s) B k) (wPut c.n (rhoOf s) o.dst undef fun ρ' => k ρ' B)) :
    ∃ r t C, StepOk E X0 c ops A0 ag g o s B r t C ∧ k (rhoOf t) C := by
  rcases wWants_tm (c := c) h with ⟨hwt, h⟩ | ⟨hwt, h⟩
  · unfold wTag at h
    cases h5 : Nat.beq g 5 with
    | true =>
      rw [h5] at h
      have e5 : g = 5 := Nat.eq_of_beq_eq_true h5
      have h : wOp E o (rhoOf s) A0 (fun v _ => wPut c.n (rhoOf s) o.dst v fun ρ' => k ρ' B) := h
      obtain ⟨v, A', h1, h2⟩ := wOp_tm h
      obtain ⟨t, hp, hk⟩ := wPut_tm h2
      obtain ⟨r, hr⟩ := stepOk_aop (X0 := X0) (ops := ops) hf (by omega) hn0 hw0 hw hwt (by rw [h5]; exact h1) hp hag
      rw [h5] at hr
      exact ⟨r, t, B, hr, hk⟩
    | false =>
      rw [h5] at h
      cases h3 : Nat.beq g 3 with
      | true =>
        have e3 : g = 3 := Nat.eq_of_beq_eq_true h3
        rw [h3] at h
        have h : wStepQ E X0 c.n o (rhoOf s) B k := h
        unfold wStepQ at h
        split at h
        · rename_i ca ho
          split at h
          · rename_i f hc
            obtain ⟨fv, he, h⟩ := wE_tm h
            obtain ⟨args, ha, v, C, hb, hl, hsame, h⟩ := wEs_tm h
            obtain ⟨t, hp, hk⟩ := wPut_tm h
            obtain ⟨r, hr⟩ := stepOk_call (A0 := A0) (ag := ag) (ops := ops) (.inl e3) hwt ho hc he ha hb hl (fun _ => hsame) hw hp hag
            exact ⟨r, t, C, hr, hk⟩
          · exact h.elim
        · exact h.elim
      | false =>
        rw [h3] at h
        have h : wStep E X0 c.n o (rhoOf s) B k := h
        have n3 : g ≠ 3 := Nat.ne_of_beq_eq_false h3
        cases wStep_tm h with
        | aop h1 hp hk =>
          obtain ⟨r, hr⟩ := stepOk_aop (X0 := X0) (ops := ops) hf n3 hn0 hw0 hw hwt (by rw [h5]; exact h1) hp hag
          rw [h5] at hr
          exact ⟨r, _, _, hr, hk⟩
        | call ho hc he ha hb hl hp hk =>
          have e4 : g = 4 := by
            have hv := isCallV_of ho hc
            rcases hf with ⟨_, hp⟩ | ⟨_, hp⟩ | ⟨_, hp⟩ | ⟨e, _⟩ | ⟨e, _⟩ | ⟨_, hp⟩
            · exact (isPure_call hp ho).elim
            · exact (isNew_call hp ho).elim
            · exact (isRead_call hp ho hc).elim
            · exact absurd e n3
            · exact e
            · exact (isRead_call hp ho hc).elim
          obtain ⟨r, hr⟩ := stepOk_call (A0 := A0) (ag := ag) (ops := ops) (.inr e4) hwt ho hc he ha hb hl (fun e => absurd e n3) hw hp hag
          exact ⟨r, _, _, hr, hk⟩
  · obtain ⟨t, hp, hk⟩ := wPut_tm h
    obtain ⟨r, hr⟩ := stepOk_un (X0 := X0) (A0 := A0) (ag := ag) (g := g) (E := E) hwt hw hp hag
    exact ⟨r, t, B, hr, hk⟩

theorem runW_tm {c : Ctx} {ops : Array Oper} {A0 : AHeap} {ag : List Oper} (hw0 : WF A0) :
    ∀ (l : List (Nat × Oper)) (s : T Value) (B : AHeap) (K : Rho → AHeap → Prop), runW E X0 c.n ops A0 ag l (rhoOf s) B K → WF B → A0.next ≤ B.next → (∀ (k g : Nat) (o : Oper), l[k]? = some (g, o) → TagFit E g o) →
      ∃ (S : Nat → T Value) (H : Nat → AHeap) (R : Nat → Ev), S 0 = s ∧ H 0 = B ∧ (∀ (k g : Nat) (o : Oper), l[k]? = some (g, o) → StepOk E X0 c ops A0 ag g o (S k) (H k) (R k) (S (k + 1)) (H (k + 1))) ∧
        (∀ o' ∈ ag, AgainOk E (S l.length) (H l.length) o') ∧ K (rhoOf (S l.length)) (H l.length)
  | [], s, B, K, h, hw, hn, ht => by
    obtain ⟨h1, h2⟩ := wAg_tm (k := K (rhoOf s) B) h
    exact ⟨fun _ => s, fun _ => B, fun _ => ⟨B, B, undef, false, undef, []⟩, rfl, rfl, fun k g o h => by simp at h, h1, h2⟩
  | (g, o) :: l, s, B, K, h, hw, hn, ht => by
    have h' : bif Nat.beq g 4 then wAg E ag (rhoOf s) B (wWants ops o (rhoOf s) (wTag E X0 c.n A0 g o (rhoOf s) B fun ρ A => runW E X0 c.n ops A0 ag l ρ A K) (wPut c.n (rhoOf s) o.dst undef fun ρ' => runW E X0 c.n ops A0 ag l ρ' B K))
      else wWants ops o (rhoOf s) (wTag E X0 c.n A0 g o (rhoOf s) B fun ρ A => runW E X0 c.n ops A0 ag l ρ A K) (wPut c.n (rhoOf s) o.dst undef fun ρ' => runW E X0 c.n ops A0 ag l ρ' B K) := h
    have hst : (wWants ops o (rhoOf s) (wTag E X0 c.n A0 g o (rhoOf s) B fun ρ A => runW E X0 c.n ops A0 ag l ρ A K) (wPut c.n (rhoOf s) o.dst undef fun ρ' => runW E X0 c.n ops A0 ag l ρ' B K)) ∧ (g = 4 → ∀ o' ∈ ag, AgainOk E s B o') := by
      cases e : Nat.beq g 4 with
      | true =>
        rw [e] at h'
        obtain ⟨h2, h3⟩ := wAg_tm h'
        exact ⟨h3, fun _ => h2⟩
      | false =>
        rw [e] at h'
        exact ⟨h', fun e' => absurd e' (Nat.ne_of_beq_eq_false e)⟩
    obtain ⟨r, t, C, hs, hk⟩ := wTag_tm (ht 0 g o rfl) hn hw0 hw hst.2 hst.1
    obtain ⟨S, H, R, hS, hH, h1, h2, h3⟩ := runW_tm hw0 l t C K hk hs.low.wf (Nat.le_trans hn hs.low.next) fun k g o h => ht (k + 1) g o (by simpa using h)
    refine ⟨fun k => Nat.casesOn k s S, fun k => Nat.casesOn k B H, fun k => Nat.casesOn k r R, rfl, rfl, fun k g' o' hk => ?_, h2, h3⟩
    cases k with
    | zero =>
      simp only [List.getElem?_cons_zero, Option.some.injEq, Prod.mk.injEq] at hk
      obtain ⟨rfl, rfl⟩ := hk
      show StepOk E X0 c ops A0 ag g o s B r (S 0) (H 0)
      rw [hS, hH]; exact hs
    | succ k => exact h1 k g' o' (by simpa using hk)

end
end Go.Abs

/- The calculus is sound: regions whose order is drawn, code, calls. -/
namespace Go.Abs
open Go
noncomputable section
variable {P : Program} {E : Env P} {X0 : Ext0}

theorem drawAt_tm {c : Ctx} {id : Nat} {ops : Array Oper} {tm : T Value} {A : AHeap} {K : Rho → AHeap → Prop} {m : Nat} (h : drawAt E X0 c.n ops m (rhoOf tm) A K) (hw : WF A) :
    ∃ tm' A', BS E X0 (.code (.region id ops true) (c.st tm) A .normal (c.st tm') A') ∧ Low A A' ∧ K (rhoOf tm') A' := by
  unfold drawAt at h
  cases hp : planOk E ops m with
  | false => rw [hp] at h; exact h.elim
  | true =>
  rw [hp] at h
  have h1 : runW E X0 c.n ops A (againOf E ops.toList (masks ops.toList 0 .e) m ops.size ops.toList 0) (tagL E ops.toList (masks ops.toList 0 .e) m ops.toList 0) (rhoOf tm) A K := h
  unfold planOk at hp
  simp only [Bool.and_eq_true] at hp
  obtain ⟨⟨hed, hm⟩, hops⟩ := hp
  have hm : m ≤ ops.size := Nat.le_of_ble_eq_true hm
  have fact : ∀ i, i < ops.size → OpFacts E ops.toList (masks ops.toList 0 .e) m ops.size i (ops.getD i default) := fun i hi => by
    have := opsOk_of hops i (ops.getD i default) (Seen.mem hi)
    rw [Nat.zero_add] at this
    exact opOk_facts this
  obtain ⟨S, H, R, hS, hH, hst, hfin, hk⟩ := runW_tm (c := c) hw _ tm A _ h1 hw (Nat.le_refl _) (by
    intro k g o hk
    rw [tagL_get, Option.map_eq_some_iff] at hk
    obtain ⟨o', ho', e⟩ := hk
    simp only [Prod.mk.injEq] at e
    obtain ⟨hg, rfl⟩ := e
    have hkn : k < ops.size := by
      have := (List.getElem?_eq_some_iff.1 ho').1; simpa using this
    have eo : o' = ops.getD k default := by
      have := Seen.mem (ops := ops) hkn; rw [ho'] at this; exact Option.some.inj this
    rw [Nat.zero_add] at hg
    have hf := fact k hkn
    rw [← eo] at hf
    by_cases hkm : k < m
    · rcases tagOf_soon hkm hg with ⟨h, h'⟩ | ⟨h, h'⟩ | ⟨h, h', _⟩ | ⟨h, h'⟩ | ⟨h, h', _⟩ | h
      · exact .inl ⟨h, h'⟩
      · exact .inr (.inl ⟨h, h'⟩)
      · exact .inr (.inr (.inl ⟨h, h'⟩))
      · exact .inr (.inr (.inr (.inr (.inr ⟨h, h'⟩))))
      · exact .inr (.inr (.inr (.inl ⟨h, h'⟩)))
      · exact absurd (hg.trans h) hf.tag
    · rw [tagOf_late (by omega)] at hg
      exact .inr (.inr (.inr (.inr (.inl ⟨hg.symm, hf.defer⟩)))))
  rw [tagL_length, Array.length_toList] at hfin hk
  have hseen : Seen E X0 c ops (masks ops.toList 0 .e) m (againOf E ops.toList (masks ops.toList 0 .e) m ops.size ops.toList 0) A S H R := {
    pre := bitOf_pre, edges := hed, mle := hm, wf := hw, H0 := hH, fact := fact, fin := hfin
    step := fun i hi => by
      refine hst i _ _ ?_
      rw [tagL_get, Seen.mem hi]; simp
    again := fun i hi hs ht => by
      have := againOf_mem (E := E) (ops := ops.toList) (ms := masks ops.toList 0 .e) (m := m) (n := ops.size) (i := 0) (Seen.mem hi) (by rw [Nat.zero_add]; exact hs) (by rw [Nat.zero_add]; exact ht)
      exact this }
  have hd := hseen.ok hS
  refine ⟨S ops.size, H ops.size, ?_, hseen.lowH _ (Nat.le_refl _), hk⟩
  have hb := BS.regionD (X := X0) (id := id) hd (fun i hi => (hseen.step i hi).grow) (fun i hi hW hc => by
    obtain ⟨ca, f, ho, hcal, hf, ha, hb⟩ := (hseen.step i hi).call hW hc
    exact hb)
  have e : (Seen.draw ops (masks ops.toList 0 .e) m S H R).G (ops.size - (Seen.draw ops (masks ops.toList 0 .e) m S H R).m) = H ops.size := by
    show H (m + (ops.size - m)) = _
    congr 1; omega
  rw [e] at hb
  exact hb

/-- Where code went on. -/
def onwardP (K : KTP) (X : KXP) : AExit → KTP
  | .normal => K
  | e => X e

def Arrives (E : Env P) (X0 : Ext0) (fn : FuncId) (rd : Option Nat) (n : Nat) (code : Code) (ds : List Deferred) (tm : T Value) (A : AHeap) (K : KTP) (X : KXP) : Prop :=
  ∃ e ds' tm' A', BS E X0 (.code code (Ctx.st ⟨fn, rd, n, ds⟩ tm) A e (Ctx.st ⟨fn, rd, n, ds'⟩ tm') A') ∧ Low A A' ∧ onwardP K X e ds' (rhoOf tm') A'

variable {hm : FuncId → Nat → Option Nat} {fn : FuncId} {rd : Option Nat} {n : Nat}

theorem loop_tm {a : Code} (iha : ∀ (K : KTP) (X : KXP) ds tm A, wpC E X0 hm fn rd n a K X ds (rhoOf tm) A → WF A → Arrives E X0 fn rd n a ds tm A K X) {X : KXP} {K : KTP} :
    ∀ (k : Nat) ds tm A, loopW (wpC E X0 hm fn rd n a) X k ds (rhoOf tm) A → WF A → Arrives E X0 fn rd n (.loop a) ds tm A K X
  | 0, ds, tm, A, h, _ => h.elim
  | k + 1, ds, tm, A, h, hw => by
    obtain ⟨e, ds1, tm1, A1, hb, hl, hk⟩ := iha (loopW (wpC E X0 hm fn rd n a) X k) X ds tm A h hw
    cases e with
    | normal =>
      obtain ⟨e, ds2, tm2, A2, hb2, hl2, hk2⟩ := loop_tm iha k ds1 tm1 A1 hk hl.wf
      exact ⟨e, ds2, tm2, A2, .loop hb hb2, hl.trans hl2, hk2⟩
    | exit id => exact ⟨_, ds1, tm1, A1, .loopOut hb (by simp), hl, hk⟩
    | ret => exact ⟨_, ds1, tm1, A1, .loopOut hb (by simp), hl, hk⟩

theorem wJump_of {pd : Option Code} {K : KTP} {X : KXP} {ds : List Deferred} {ρ : Rho} {A : AHeap} (h : wJump pd K X ds ρ A) :
    (pd = none ∧ K ds ρ A) ∨ (pd = some .ret ∧ X .ret ds ρ A) ∨ (∃ id, pd = some (.exit id) ∧ X (.exit id) ds ρ A) := by
  unfold wJump at h
  split at h
  · exact .inl ⟨rfl, h⟩
  · exact .inr (.inl ⟨rfl, h⟩)
  · exact .inr (.inr ⟨_, rfl, h⟩)
  · exact h.elim

theorem wpC_tm : ∀ (code : Code) (K : KTP) (X : KXP) (ds : List Deferred) (tm : T Value) (A : AHeap), wpC E X0 hm fn rd n code K X ds (rhoOf tm) A → WF A → Arrives E X0 fn rd n code ds tm A K X := by
  intro code
  induction code with
  | skip => exact fun K X ds tm A h hw => ⟨.normal, ds, tm, A, .skip, Low.refl hw, h⟩
  | label l => exact fun K X ds tm A h hw => ⟨.normal, ds, tm, A, .label, Low.refl hw, h⟩
  | exit id => exact fun K X ds tm A h hw => ⟨.exit id, ds, tm, A, .exit, Low.refl hw, h⟩
  | ret => exact fun K X ds tm A h hw => ⟨.ret, ds, tm, A, .ret, Low.refl hw, h⟩
  | region id ops d =>
    intro K X ds tm A h hw
    cases d with
    | false =>
      obtain ⟨ds', tm', A', hb, hl, hk⟩ := opsW_tm (c := ⟨fn, rd, n, ds⟩) (i := 0) (l := ops.toList) h hw
      exact ⟨.normal, ds', tm', A', .region hb, hl, hk⟩
    | true =>
      obtain ⟨tm', A', hb, hl, hk⟩ := drawAt_tm (c := ⟨fn, rd, n, ds⟩) (id := id) h hw
      exact ⟨.normal, ds, tm', A', hb, hl, hk⟩
  | seq a b iha ihb =>
    intro K X ds tm A h hw
    obtain ⟨e, ds1, tm1, A1, hb, hl, hk⟩ := iha (fun ds ρ A => wpC E X0 hm fn rd n b K X ds ρ A) X ds tm A h hw
    cases e with
    | normal =>
      obtain ⟨e, ds2, tm2, A2, hb2, hl2, hk2⟩ := ihb K X ds1 tm1 A1 hk hl.wf
      exact ⟨e, ds2, tm2, A2, .seq hb hb2, hl.trans hl2, hk2⟩
    | exit id => exact ⟨_, ds1, tm1, A1, .seqOut hb (by simp), hl, hk⟩
    | ret => exact ⟨_, ds1, tm1, A1, .seqOut hb (by simp), hl, hk⟩
  | cond x a b iha ihb =>
    intro K X ds tm A h hw
    have h : wE (evR (rhoOf tm) x) fun v => wIf v (wpC E X0 hm fn rd n a K X ds (rhoOf tm) A) (wpC E X0 hm fn rd n b K X ds (rhoOf tm) A) := h
    obtain ⟨v, hv, t, rfl, h1, h2⟩ := wE_tm h
    cases t with
    | true =>
      obtain ⟨e, ds', tm', A', hb, hl, hk⟩ := iha K X ds tm A (h1 rfl) hw
      exact ⟨e, ds', tm', A', .cond (t := true) (by rw [opE_ev]; exact hv) hb, hl, hk⟩
    | false =>
      obtain ⟨e, ds', tm', A', hb, hl, hk⟩ := ihb K X ds tm A (h2 rfl) hw
      exact ⟨e, ds', tm', A', .cond (t := false) (by rw [opE_ev]; exact hv) hb, hl, hk⟩
  | block id a iha =>
    intro K X ds tm A h hw
    obtain ⟨e, ds', tm', A', hb, hl, hk⟩ := iha K (wBlk id K X) ds tm A h hw
    cases e with
    | normal => exact ⟨_, ds', tm', A', .block hb, hl, hk⟩
    | ret => exact ⟨_, ds', tm', A', .block hb, hl, hk⟩
    | exit id' =>
      have hk2 : (bif Nat.beq id' id then K ds' (rhoOf tm') A' else X (.exit id') ds' (rhoOf tm') A') := hk
      clear hk
      cases he : Nat.beq id' id with
      | true =>
        rw [he] at hk2
        have hk3 : K ds' (rhoOf tm') A' := hk2
        have := Nat.eq_of_beq_eq_true he
        subst this
        refine ⟨_, ds', tm', A', .block hb, hl, ?_⟩
        rw [if_pos rfl]; exact hk3
      | false =>
        rw [he] at hk2
        have : id' ≠ id := Nat.ne_of_beq_eq_false he
        refine ⟨_, ds', tm', A', .block hb, hl, ?_⟩
        rw [if_neg (by simpa using this)]; exact hk2
  | loop a iha =>
    intro K X ds tm A h hw
    obtain ⟨k, h⟩ := h
    exact loop_tm iha k ds tm A h hw
  | rangeFunc f params asg body _ _ =>
    intro K X ds tm A h hw
    have h : wRange E X0 fn rd n f params asg body K X ds (rhoOf tm) A := h
    unfold wRange at h
    obtain ⟨fv, hf, h⟩ := wE_tm h
    unfold wFn at h
    split at h
    · rename_i g first cap
      obtain ⟨D, hD, h⟩ := h
      have h := h tm rfl
      generalize hs : A.start ⟨fn, rd, n, tm, ds⟩ params asg body D = st at h
      obtain ⟨A1, L, ds1⟩ := st
      have hl1 : Low A A1 := by
        cases D with
        | some D =>
          simp only [AHeap.start, Prod.mk.injEq] at hs
          obtain ⟨rfl, _, _⟩ := hs
          exact hw.push' _
        | none =>
          simp only [AHeap.start, Prod.mk.injEq] at hs
          obtain ⟨rfl, _, _⟩ := hs
          exact (hw.push' _).trans ((hw.push' _).wf.push' _)
      obtain ⟨v, A2, hb, hl2, r, hr, hbusy, hj⟩ := h
      have hl3 := hl2.wf.set' (o' := .loop { r with state := .exhausted }) hr
      rcases wJump_of hj with ⟨hp, hk⟩ | ⟨hp, hk⟩ | ⟨id, hp, hk⟩
      · exact ⟨.normal, ds1, tm, _, .range (by rw [opE_ev]; exact hf) ⟨_, _, _, rfl⟩ hD hs hb hr hbusy hp, (hl1.trans hl2).trans hl3, hk⟩
      · exact ⟨.ret, ds1, tm, _, .rangeOut (by rw [opE_ev]; exact hf) ⟨_, _, _, rfl⟩ hD hs hb hr hbusy hp .ret, (hl1.trans hl2).trans hl3, hk⟩
      · exact ⟨.exit id, ds1, tm, _, .rangeOut (by rw [opE_ev]; exact hf) ⟨_, _, _, rfl⟩ hD hs hb hr hbusy hp .exit, (hl1.trans hl2).trans hl3, hk⟩
    · exact h.elim
  | _ => intro K X ds tm A h; exact h.elim

theorem wLeave_of {ds : List Deferred} : ∀ {A : AHeap} {K : AHeap → Prop}, wLeave E X0 ds A K → WF A → ∃ A', BS E X0 (.leave ds A A') ∧ Low A A' ∧ K A' := by
  induction ds with
  | nil => exact fun {A K} h hw => ⟨A, .leaveNil, Low.refl hw, h⟩
  | cons d ds ih =>
    intro A K h hw
    have h' : (match d.target with
      | .collected D => A.obj D = some .marks ∧ wLeave E X0 ds (A.set D .dead) K
      | .fn (.func fn) cap => wCall E X0 fn (d.args.toList ++ cap.toList) A fun _ A => wLeave E X0 ds A K
      | _ => False) := h
    split at h'
    · rename_i D ht
      obtain ⟨hD, h1⟩ := h'
      have hl := hw.set' (o' := .dead) hD
      obtain ⟨A', hb, hl', hk⟩ := ih h1 hl.wf
      exact ⟨A', .leaveMark ht hD hb, hl.trans hl', hk⟩
    · rename_i fn cap ht
      obtain ⟨v, A1, hb, hl, h2⟩ := h'
      obtain ⟨A', hb', hl', hk⟩ := ih h2 hl.wf
      exact ⟨A', .leaveCall ht hb hb', hl.trans hl', hk⟩
    · exact h'.elim

theorem wRes_tm {rs : List ResultVar} {tm : T Value} {A : AHeap} {K : List Value → Prop} (h : wRes E rs (rhoOf tm) A K) : ∃ l, aResults E tm A rs = some l ∧ K l := by
  induction rs generalizing K with
  | nil => exact ⟨[], rfl, h⟩
  | cons r rs ih =>
    cases r with
    | tmp t =>
      have h' : wRes E rs (rhoOf tm) A (fun l => K (rhoOf tm t :: l)) := h
      obtain ⟨l, h1, h2⟩ := ih h'
      exact ⟨_, by simp only [aResults, h1]; rfl, h2⟩
    | cell a ty =>
      have h' : wO (aLoad E ty (rhoOf tm a) A) (fun v => wRes E rs (rhoOf tm) A (fun l => K (v :: l))) := h
      obtain ⟨v, hv, h1⟩ := h'
      obtain ⟨l, h1, h2⟩ := ih h1
      have hv' : aLoad E ty ((tm.get a).getD undef) A = some v := hv
      exact ⟨_, by simp only [aResults, h1, hv'], h2⟩

/-- THE CALL OF A FUNCTION, OUT OF ITS BODY. -/
theorem wCall_of {f : FuncId} {fn : Func} {args : List Value} {A : AHeap} {K : Value → AHeap → Prop} (hf : E.fns f = some fn) (h : wBody E X0 hm f fn args A K) (hw : WF A) : wCall E X0 f args A K := by
  unfold wBody at h
  split at h
  · rename_i c hc
    rw [← rhoOf_list] at h
    obtain ⟨e, ds', tm', A1, hb, hl, hk⟩ := wpC_tm c _ _ [] (T.ofList args) A h hw
    have fin : wFin E X0 fn.results.toList K ds' (rhoOf tm') A1 ∧ (e = .normal ∨ e = .ret) := by
      cases e with
      | normal => exact ⟨hk, .inl rfl⟩
      | exit id => exact hk.elim
      | ret => exact ⟨hk, .inr rfl⟩
    obtain ⟨hfin, he⟩ := fin
    obtain ⟨A2, hb2, hl2, h4⟩ := wLeave_of hfin hl.wf
    obtain ⟨l, hr, h5⟩ := wRes_tm h4
    exact ⟨_, A2, .call hf hc hb he hb2 hr, hl.trans hl2, h5⟩
  · exact h.elim

theorem wApp_fn {f : FuncId} {first cap : Array Value} {args : List Value} {A : AHeap} {K : Value → AHeap → Prop} (h : wCall E X0 f (first.toList ++ args ++ cap.toList) A K) : wApp E X0 (.func (.func f) first cap) args A K := by
  obtain ⟨v, A', hb, hl, hk⟩ := h
  exact ⟨v, A', .appFn hb, hl, hk⟩
theorem wApp_yld {l : Nat} {args : List Value} {A : AHeap} {K : Value → AHeap → Prop} (h : wYld E X0 l args A K) : wApp E X0 (.func (.yield l) #[] #[]) args A K := by
  obtain ⟨v, A', hb, hl, hk⟩ := h
  exact ⟨v, A', .appYield hb, hl, hk⟩
theorem wCall_ext {f : FuncId} {args : List Value} {A A' : AHeap} {v : Value} {K : Value → AHeap → Prop} (h : X0 f args A v A') (hl : Low A A') (hk : K v A') : wCall E X0 f args A K := ⟨v, A', .ext h, hl, hk⟩

/-- What is left behind a round. -/
def wYEnd (l : Nat) (K : Value → AHeap → Prop) (e : AExit) : KTP := fun ds _ A => ds = [] ∧ ∃ r, A.obj l = some (.loop r) ∧
  K (.bool (jumpOf e).isNone) (A.set l (.loop { r with state := if (jumpOf e).isNone then .ready else .done, pending := jumpOf e }))

/-- A ROUND. -/
theorem wYld_of {l : Nat} {args : List Value} {A : AHeap} {K : Value → AHeap → Prop} {r : ALoop} (hl : A.obj l = some (.loop r)) (hn : args.length = r.params.size) (hps : ∀ i ∈ r.params.toList, i < r.n)
    (h : wpC E X0 hm r.fn (some l) r.n r.assign (fun ds ρ A => ds = [] ∧ ∃ r1, A.obj l = some (.loop r1) ∧ r1.state = .ready ∧ ∀ tm, rhoOf tm = ρ →
      wpC E X0 hm r.fn (some l) r.n r.body (wYEnd l K .normal) (wYEnd l K) [] ρ (A.set l (.loop { r1 with state := .busy }))) (fun _ _ _ _ => False) [] (rhoOf (setAll r.tmps (r.params.toList.zip args))) A) (hw : WF A) : wYld E X0 l args A K := by
  obtain ⟨e, ds1, tm1, A1, hb, hlo, hk⟩ := wpC_tm r.assign _ _ [] (setAll r.tmps (r.params.toList.zip args)) A h hw
  cases e with
  | normal =>
    obtain ⟨rfl, r1, hr1, hst, hk⟩ := hk
    have hlo1 := hlo.wf.set' (o' := .loop { r1 with state := .busy }) hr1
    obtain ⟨e2, ds2, tm2, A3, hb2, hlo2, hk2⟩ := wpC_tm r.body _ _ [] tm1 _ (hk tm1 rfl) hlo1.wf
    have hk3 : wYEnd l K e2 ds2 (rhoOf tm2) A3 := by cases e2 <;> exact hk2
    obtain ⟨rfl, r3, hr3, hk4⟩ := hk3
    have hlo3 := hlo2.wf.set' (o' := .loop { r3 with state := if (jumpOf e2).isNone then .ready else .done, pending := jumpOf e2 }) hr3
    exact ⟨_, _, .yield hl hn hps hb hr1 hst hb2 rfl hr3, ((hlo.trans hlo1).trans hlo2).trans hlo3, hk4⟩
  | exit id => exact hk.elim
  | ret => exact hk.elim

end
end Go.Abs

/- The calculus: what brings about more brings about less; loops by an invariant. -/
namespace Go.Abs
open Go
noncomputable section
variable {P : Program} {E : Env P} {X0 : Ext0}

theorem wE_mono {e : Option Value} {k k' : Value → Prop} (hk : ∀ v, k v → k' v) (h : wE e k) : wE e k' := by
  cases e with
  | none => exact h
  | some v => exact hk v h
theorem wO_mono {α : Type} {e : Option α} {k k' : α → Prop} (hk : ∀ v, k v → k' v) (h : wO e k) : wO e k' := by
  obtain ⟨v, e, h⟩ := h; exact ⟨v, e, hk v h⟩
theorem wO2_mono {e : Option (Value × AHeap)} {k k' : Value → AHeap → Prop} (hk : ∀ v A, k v A → k' v A) (h : wO2 e k) : wO2 e k' := by
  obtain ⟨v, A, e, h⟩ := h; exact ⟨v, A, e, hk v A h⟩
theorem wIf_mono {v : Value} {p q p' q' : Prop} (hp : p → p') (hq : q → q') (h : wIf v p q) : wIf v p' q' := by
  obtain ⟨t, e, h1, h2⟩ := h; exact ⟨t, e, fun h => hp (h1 h), fun h => hq (h2 h)⟩
theorem wG_mono {v : Value} {b : Bool} {p q p' q' : Prop} (hp : p → p') (hq : q → q') (h : wG v b p q) : wG v b p' q' := ⟨fun e => hp (h.1 e), fun e => hq (h.2 e)⟩
theorem wPick_mono {c x y : Value} {k k' : Value → Prop} (hk : ∀ v, k v → k' v) (h : wPick c x y k) : wPick c x y k' := by
  obtain ⟨t, e, h⟩ := h; exact ⟨t, e, hk _ h⟩
theorem wFn_mono {v : Value} {k k' : FuncId → Array Value → Array Value → Prop} (hk : ∀ f a c, k f a c → k' f a c) (h : wFn v k) : wFn v k' := by
  unfold wFn at h ⊢
  split at h
  · exact hk _ _ _ h
  · exact h
theorem wPut_mono {n : Nat} {ρ : Rho} {dst : Option Tmp} {v : Value} {k k' : Rho → Prop} (hk : ∀ ρ, k ρ → k' ρ) (h : wPut n ρ dst v k) : wPut n ρ dst v k' := by
  cases dst with
  | none => exact hk _ h
  | some d =>
    have h' : (bif Nat.blt d n then k (upd ρ d v) else False) := h
    show (bif Nat.blt d n then k' (upd ρ d v) else False)
    cases e : Nat.blt d n with
    | false => rw [e] at h'; exact h'
    | true => rw [e] at h'; exact hk _ h'
theorem wEs_mono {ρ : Rho} {l : List Operand} {k k' : List Value → Prop} (hk : ∀ v, k v → k' v) (h : wEs ρ l k) : wEs ρ l k' := by
  induction l generalizing k k' with
  | nil => exact hk _ h
  | cons x r ih => exact wE_mono (e := evR ρ x) (k := fun v => wEs ρ r fun l => k (v :: l)) (fun v h => ih (fun l h => hk _ h) h) h
theorem wParts_mono {ρ : Rho} {l : List (Nat × Operand)} {k k' : List (Nat × Value) → Prop} (hk : ∀ v, k v → k' v) (h : wParts ρ l k) : wParts ρ l k' := by
  induction l generalizing k k' with
  | nil => exact hk _ h
  | cons x r ih => exact wE_mono (e := evR ρ x.2) (k := fun v => wParts ρ r fun l => k ((x.1, v) :: l)) (fun v h => ih (fun l h => hk _ h) h) h
theorem wOpt_mono {ρ : Rho} {l : Option Operand} {k k' : Option Value → Prop} (hk : ∀ v, k v → k' v) (h : wOpt ρ l k) : wOpt ρ l k' := by
  cases l with
  | none => exact hk _ h
  | some x => exact wE_mono (fun v h => hk _ h) h

theorem wOp_mono {o : Oper} {ρ : Rho} {A : AHeap} {k k' : Value → AHeap → Prop} (hk : ∀ v A, k v A → k' v A) (h : wOp E o ρ A k) : wOp E o ρ A k' := by
  unfold wOp at h ⊢
  generalize o.op = op at h
  cases op <;> try exact h.elim
  case makeFunc fn a c => cases fn <;> first | exact h.elim | exact wEs_mono (fun _ h => wEs_mono (fun _ h => hk _ _ h) h) h
  case makeMap t r => cases r <;> first | exact h.elim | exact hk _ _ h
  case call c =>
    cases hc : c.callee with
    | builtin b =>
      simp only [hc] at h ⊢
      exact wEs_mono (fun _ h => wO2_mono hk h) h
    | value f => simp only [hc] at h
    | invoke a b => simp only [hc] at h
  all_goals first
    | exact wE_mono (fun _ h => hk _ _ h) h
    | exact wE_mono (fun _ h => wE_mono (fun _ h => wE_mono (fun _ h => wPick_mono (fun _ h => hk _ _ h) h) h) h) h
    | exact wO2_mono hk h
    | exact wParts_mono (fun _ h => wO_mono (fun _ h => hk _ _ h) h) h
    | exact wParts_mono (fun _ h => wO2_mono hk h) h
    | exact wE_mono (fun _ h => wO_mono (fun _ h => hk _ _ h) h) h
    | exact wE_mono (fun _ h => wE_mono (fun _ h => wO_mono (fun _ h => hk _ _ h) h) h) h
    | exact wE_mono (fun _ h => wE_mono (fun _ h => wE_mono (fun _ h => wO_mono (fun _ h => hk _ _ h) h) h) h) h
    | exact wE_mono (fun _ h => wE_mono (fun _ h => wO2_mono hk h) h) h
    | exact wE_mono (fun _ h => wOpt_mono (fun _ h => wOpt_mono (fun _ h => wOpt_mono (fun _ h => wO_mono (fun _ h => hk _ _ h) h) h) h) h) h

theorem wApp_mono {fv : Value} {args : List Value} {A : AHeap} {k k' : Value → AHeap → Prop} (hk : ∀ v A, k v A → k' v A) (h : wApp E X0 fv args A k) : wApp E X0 fv args A k' := by
  obtain ⟨v, A', h1, h2, h⟩ := h; exact ⟨v, A', h1, h2, hk _ _ h⟩
theorem wAppQ_mono {fv : Value} {args : List Value} {A : AHeap} {k k' : Value → AHeap → Prop} (hk : ∀ v A, k v A → k' v A) (h : wAppQ E X0 fv args A k) : wAppQ E X0 fv args A k' := by
  obtain ⟨v, A', h1, h2, h3, h⟩ := h; exact ⟨v, A', h1, h2, h3, hk _ _ h⟩
theorem wCall_mono {f : FuncId} {args : List Value} {A : AHeap} {k k' : Value → AHeap → Prop} (hk : ∀ v A, k v A → k' v A) (h : wCall E X0 f args A k) : wCall E X0 f args A k' := by
  obtain ⟨v, A', h1, h2, h⟩ := h; exact ⟨v, A', h1, h2, hk _ _ h⟩

theorem wStep_mono {n : Nat} {o : Oper} {ρ : Rho} {A : AHeap} {k k' : Rho → AHeap → Prop} (hk : ∀ ρ A, k ρ A → k' ρ A) (h : wStep E X0 n o ρ A k) : wStep E X0 n o ρ A k' := by
  unfold wStep at h ⊢
  split at h
  · split at h
    · exact wE_mono (fun _ h => wEs_mono (fun _ h => wApp_mono (fun _ _ h => wPut_mono (fun _ h => hk _ _ h) h) h) h) h
    · exact wOp_mono (fun _ _ h => wPut_mono (fun _ h => hk _ _ h) h) h
  · exact wOp_mono (fun _ _ h => wPut_mono (fun _ h => hk _ _ h) h) h
theorem wStepQ_mono {n : Nat} {o : Oper} {ρ : Rho} {A : AHeap} {k k' : Rho → AHeap → Prop} (hk : ∀ ρ A, k ρ A → k' ρ A) (h : wStepQ E X0 n o ρ A k) : wStepQ E X0 n o ρ A k' := by
  unfold wStepQ at h ⊢
  split at h
  · split at h
    · exact wE_mono (fun _ h => wEs_mono (fun _ h => wAppQ_mono (fun _ _ h => wPut_mono (fun _ h => hk _ _ h) h) h) h) h
    · exact h
  · exact h
theorem wWants_mono {ops : Array Oper} {o : Oper} {ρ : Rho} {Y N Y' N' : Prop} (hY : Y → Y') (hN : N → N') (h : wWants ops o ρ Y N) : wWants ops o ρ Y' N' := by
  unfold wWants at h ⊢
  split at h
  · exact hY h
  · split at h
    · exact wG_mono hY hN h
    · exact hN h
theorem wStepD_mono {rd : Option Nat} {n : Nat} {o : Oper} {ds : List Deferred} {ρ : Rho} {A : AHeap} {k k' : KTP} (hk : ∀ ds ρ A, k ds ρ A → k' ds ρ A) (h : wStepD E X0 rd n o ds ρ A k) : wStepD E X0 rd n o ds ρ A k' := by
  unfold wStepD at h ⊢
  split at h
  · split at h
    · exact wE_mono (fun _ h => wEs_mono (fun _ h => wFn_mono (fun _ _ _ h => wPut_mono (fun _ h => hk _ _ _ h) h) h) h) h
    · exact h
  · exact wStep_mono (fun _ _ h => hk _ _ _ h) h
theorem opsW_mono {rd : Option Nat} {n : Nat} {ops : Array Oper} : ∀ {l : List Oper} {k k' : KTP} {ds : List Deferred} {ρ : Rho} {A : AHeap}, (∀ ds ρ A, k ds ρ A → k' ds ρ A) → opsW E X0 rd n ops l k ds ρ A → opsW E X0 rd n ops l k' ds ρ A
  | [], k, k', ds, ρ, A, hk, h => hk _ _ _ h
  | o :: l, k, k', ds, ρ, A, hk, h => by
    have h' : wWants ops o ρ (wStepD E X0 rd n o ds ρ A (opsW E X0 rd n ops l k)) (wPut n ρ o.dst undef fun ρ' => opsW E X0 rd n ops l k ds ρ' A) := h
    exact wWants_mono (fun h => wStepD_mono (fun _ _ _ h => opsW_mono hk h) h) (fun h => wPut_mono (fun _ h => opsW_mono hk h) h) h'
theorem wAg_mono {ag : List Oper} {ρ : Rho} {A : AHeap} {k k' : Prop} (hk : k → k') (h : wAg E ag ρ A k) : wAg E ag ρ A k' := by
  induction ag with
  | nil => exact hk h
  | cons o r ih =>
    have h' : (match o.dst with
      | some d => wOp E o ρ A fun v _ => v = ρ d ∧ wAg E r ρ A k
      | none => False) := h
    show (match o.dst with
      | some d => wOp E o ρ A fun v _ => v = ρ d ∧ wAg E r ρ A k'
      | none => False)
    split at h'
    · exact wOp_mono (fun _ _ h => ⟨h.1, ih h.2⟩) h'
    · exact h'
theorem wTag_mono {n : Nat} {A0 : AHeap} {g : Nat} {o : Oper} {ρ : Rho} {A : AHeap} {k k' : Rho → AHeap → Prop} (hk : ∀ ρ A, k ρ A → k' ρ A) (h : wTag E X0 n A0 g o ρ A k) : wTag E X0 n A0 g o ρ A k' := by
  unfold wTag at h ⊢
  cases h5 : Nat.beq g 5 with
  | true =>
    rw [h5] at h
    have h : wOp E o ρ A0 (fun v _ => wPut n ρ o.dst v fun ρ' => k ρ' A) := h
    show wOp E o ρ A0 (fun v _ => wPut n ρ o.dst v fun ρ' => k' ρ' A)
    exact wOp_mono (fun _ _ h => wPut_mono (fun _ h => hk _ _ h) h) h
  | false =>
    rw [h5] at h
    cases h3 : Nat.beq g 3 with
    | true => rw [h3] at h; exact wStepQ_mono hk h
    | false => rw [h3] at h; exact wStep_mono hk h
theorem runW_mono {n : Nat} {ops : Array Oper} {A0 : AHeap} {ag : List Oper} : ∀ {l : List (Nat × Oper)} {ρ : Rho} {A : AHeap} {k k' : Rho → AHeap → Prop}, (∀ ρ A, k ρ A → k' ρ A) → runW E X0 n ops A0 ag l ρ A k → runW E X0 n ops A0 ag l ρ A k'
  | [], ρ, A, k, k', hk, h => wAg_mono (hk _ _) h
  | p :: l, ρ, A, k, k', hk, h => by
    have one : (wWants ops p.2 ρ (wTag E X0 n A0 p.1 p.2 ρ A fun ρ A => runW E X0 n ops A0 ag l ρ A k) (wPut n ρ p.2.dst undef fun ρ' => runW E X0 n ops A0 ag l ρ' A k)) →
      (wWants ops p.2 ρ (wTag E X0 n A0 p.1 p.2 ρ A fun ρ A => runW E X0 n ops A0 ag l ρ A k') (wPut n ρ p.2.dst undef fun ρ' => runW E X0 n ops A0 ag l ρ' A k')) :=
      wWants_mono (wTag_mono fun _ _ h => runW_mono hk h) (wPut_mono fun _ h => runW_mono hk h)
    have h' : bif Nat.beq p.1 4 then wAg E ag ρ A (wWants ops p.2 ρ (wTag E X0 n A0 p.1 p.2 ρ A fun ρ A => runW E X0 n ops A0 ag l ρ A k) (wPut n ρ p.2.dst undef fun ρ' => runW E X0 n ops A0 ag l ρ' A k))
      else wWants ops p.2 ρ (wTag E X0 n A0 p.1 p.2 ρ A fun ρ A => runW E X0 n ops A0 ag l ρ A k) (wPut n ρ p.2.dst undef fun ρ' => runW E X0 n ops A0 ag l ρ' A k) := h
    show bif Nat.beq p.1 4 then wAg E ag ρ A (wWants ops p.2 ρ (wTag E X0 n A0 p.1 p.2 ρ A fun ρ A => runW E X0 n ops A0 ag l ρ A k') (wPut n ρ p.2.dst undef fun ρ' => runW E X0 n ops A0 ag l ρ' A k'))
      else wWants ops p.2 ρ (wTag E X0 n A0 p.1 p.2 ρ A fun ρ A => runW E X0 n ops A0 ag l ρ A k') (wPut n ρ p.2.dst undef fun ρ' => runW E X0 n ops A0 ag l ρ' A k')
    cases e : Nat.beq p.1 4 with
    | true => rw [e] at h'; exact wAg_mono one h'
    | false => rw [e] at h'; exact one h'

variable {hm : FuncId → Nat → Option Nat} {fn : FuncId} {rd : Option Nat} {n : Nat}

abbrev Body := KTP → KXP → List Deferred → Rho → AHeap → Prop
def Mono (a : Body) : Prop := ∀ (K K' : KTP) (X X' : KXP) ds ρ A, (∀ ds ρ A, K ds ρ A → K' ds ρ A) → (∀ e ds ρ A, X e ds ρ A → X' e ds ρ A) → a K X ds ρ A → a K' X' ds ρ A

theorem loopW_mono {a : Body} (ha : Mono a) {X X' : KXP} (hX : ∀ e ds ρ A, X e ds ρ A → X' e ds ρ A) : ∀ k ds ρ A, loopW a X k ds ρ A → loopW a X' k ds ρ A
  | 0, _, _, _, h => h
  | k + 1, ds, ρ, A, h => ha (loopW a X k) (loopW a X' k) X X' ds ρ A (loopW_mono ha hX k) hX h
theorem loopW_more {a : Body} (ha : Mono a) {X : KXP} : ∀ k ds ρ A, loopW a X k ds ρ A → loopW a X (k + 1) ds ρ A
  | 0, _, _, _, h => h.elim
  | k + 1, ds, ρ, A, h => ha (loopW a X k) (loopW a X (k + 1)) X X ds ρ A (loopW_more ha k) (fun _ _ _ _ h => h) h
theorem loopW_le {a : Body} (ha : Mono a) {X : KXP} {k j : Nat} (hkj : k ≤ j) {ds ρ A} (h : loopW a X k ds ρ A) : loopW a X j ds ρ A := by
  induction hkj with
  | refl => exact h
  | step _ ih => exact loopW_more ha _ _ _ _ ih

theorem wJump_mono {pd : Option Code} {K K' : KTP} {X X' : KXP} {ds : List Deferred} {ρ : Rho} {A : AHeap} (hK : ∀ ds ρ A, K ds ρ A → K' ds ρ A) (hX : ∀ e ds ρ A, X e ds ρ A → X' e ds ρ A) (h : wJump pd K X ds ρ A) : wJump pd K' X' ds ρ A := by
  unfold wJump at h ⊢
  split at h
  · exact hK _ _ _ h
  · exact hX _ _ _ _ h
  · exact hX _ _ _ _ h
  · exact h

theorem wpC_mono : ∀ (code : Code), Mono (wpC E X0 hm fn rd n code) := by
  intro code
  induction code with
  | skip => exact fun _ _ _ _ _ _ _ hK _ h => hK _ _ _ h
  | label l => exact fun _ _ _ _ _ _ _ hK _ h => hK _ _ _ h
  | exit id => exact fun _ _ _ _ _ _ _ _ hX h => hX _ _ _ _ h
  | ret => exact fun _ _ _ _ _ _ _ _ hX h => hX _ _ _ _ h
  | region id ops d =>
    intro K K' X X' ds ρ A hK hX h
    cases d with
    | false => exact opsW_mono hK h
    | true =>
      have h : drawAt E X0 n ops ((hm fn id).getD (mFind E ops)) ρ A (fun ρ A => K ds ρ A) := h
      show drawAt E X0 n ops ((hm fn id).getD (mFind E ops)) ρ A (fun ρ A => K' ds ρ A)
      unfold drawAt at h ⊢
      cases e : planOk E ops ((hm fn id).getD (mFind E ops)) with
      | true => rw [e] at h; exact runW_mono (fun _ _ h => hK _ _ _ h) h
      | false => rw [e] at h; exact h
  | seq a b iha ihb => exact fun K K' X X' ds ρ A hK hX h => iha _ _ _ _ _ _ _ (fun _ _ _ h => ihb _ _ _ _ _ _ _ hK hX h) hX h
  | cond x a b iha ihb => exact fun K K' X X' ds ρ A hK hX h => wE_mono (fun v h => wIf_mono (iha _ _ _ _ _ _ _ hK hX) (ihb _ _ _ _ _ _ _ hK hX) h) h
  | block id a iha =>
    intro K K' X X' ds ρ A hK hX h
    refine iha _ _ _ _ _ _ _ hK (fun e ds ρ A h => ?_) h
    cases e with
    | normal => exact h
    | ret => exact hX _ _ _ _ h
    | exit id' =>
      have h : (bif Nat.beq id' id then K ds ρ A else X (.exit id') ds ρ A) := h
      show (bif Nat.beq id' id then K' ds ρ A else X' (.exit id') ds ρ A)
      cases e : Nat.beq id' id with
      | true => rw [e] at h; exact hK _ _ _ h
      | false => rw [e] at h; exact hX _ _ _ _ h
  | loop a iha =>
    intro K K' X X' ds ρ A hK hX h
    obtain ⟨k, h⟩ := h
    exact ⟨k, loopW_mono (a := wpC E X0 hm fn rd n a) iha hX k ds ρ A h⟩
  | rangeFunc f params asg body _ _ =>
    intro K K' X X' ds ρ A hK hX h
    have h : wRange E X0 fn rd n f params asg body K X ds ρ A := h
    show wRange E X0 fn rd n f params asg body K' X' ds ρ A
    refine wE_mono (fun _ h => wFn_mono (fun _ _ _ h => wO_mono (fun _ h tm e => wApp_mono (fun _ A2 h => ?_) (h tm e)) h) h) h
    obtain ⟨r, h1, h2, h3⟩ := h
    exact ⟨r, h1, h2, wJump_mono hK hX h3⟩
  | _ => intro K K' X X' ds ρ A _ _ h; exact h.elim

/-- A LOOP, by what holds at its head, and a number that falls. -/
theorem wLoop_inv {a : Body} (ha : Mono a) {X : KXP} (I : Nat → KTP) (step : ∀ m ds ρ A, I m ds ρ A → a (fun ds ρ A => ∃ m', m' < m ∧ I m' ds ρ A) X ds ρ A) {m : Nat} {ds : List Deferred} {ρ : Rho} {A : AHeap} (h : I m ds ρ A) :
    wLoop a X ds ρ A := by
  have key : ∀ k m, m < k → ∀ ds ρ A, I m ds ρ A → loopW a X k ds ρ A := by
    intro k
    induction k with
    | zero => intro m hm; omega
    | succ k ih =>
      intro m hm ds ρ A h
      exact ha _ _ _ _ _ _ _ (fun ds ρ A ⟨m', hm', h⟩ => ih m' (by omega) ds ρ A h) (fun _ _ _ _ h => h) (step m ds ρ A h)
  exact ⟨m + 1, key (m + 1) m (by omega) ds ρ A h⟩

end
end Go.Abs
