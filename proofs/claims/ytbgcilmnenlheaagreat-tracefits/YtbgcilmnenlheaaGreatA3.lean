/- The big-step relation of the abstract machine over the code itself. -/
import Derived.Test.YtbgcilmnenlheaaGreatA2
import Derived.RangeFuncIn
set_option linter.unusedSimpArgs false
set_option linter.unusedVariables false
namespace Go.Abs
open Go
variable {P : Program}

inductive AExit where
  | normal
  | exit (id : Nat)
  | ret
  deriving DecidableEq

/-- An activation. -/
structure St where
  fn : FuncId
  rd : Option Nat
  n : Nat
  tmps : T Value
  ds : List Deferred

def St.ev (s : St) : Operand → Option Value
  | .tmp t => some ((s.tmps.get t).getD undef)
  | .const v => if flat v then some v else none
  | .func f => some (.func (.func f) #[] #[])
  | .global _ => none

def St.put (s : St) (dst : Option Tmp) (v : Value) : Option St :=
  match dst with
  | none => some s
  | some d => if d < s.n then some { s with tmps := s.tmps.set d v } else none

def boolOf : Option Value → Option Bool
  | some (.bool b) => some b
  | _ => none

/-- Is an operation wanted? -/
def St.wants (s : St) (ops : Array Oper) (o : Oper) : Bool :=
  match o.guard with
  | none => true
  | some (j, want) => match (ops[j]?).bind (·.dst) with
    | some d => boolOf (s.tmps.get d) == some want
    | none => false

def setAll (t : T Value) : List (Tmp × Value) → T Value
  | [] => t
  | (i, v) :: r => setAll (t.set i v) r

/-- The results of a function. -/
def aResults (E : Env P) (t : T Value) (A : AHeap) : List ResultVar → Option (List Value)
  | [] => some []
  | .tmp i :: r => match aResults E t A r with
    | some l => some ((t.get i).getD undef :: l)
    | none => none
  | .cell a ty :: r => match aLoad E ty ((t.get a).getD undef) A with
    | some v => match aResults E t A r with
      | some l => some (v :: l)
      | none => none
    | none => none
def oneOf (l : List Value) : Value :=
  match l with
  | [v] => v
  | l => .tuple l.toArray

/-- The jump that a round leaves. -/
def jumpOf : AExit → Option Code
  | .normal => none
  | .ret => some .ret
  | .exit id => some (.exit id)

def loopsAround (A : AHeap) : Option Nat → Option (Option Nat)
  | none => some none
  | some l => match A.obj l with
    | some (.loop r) => some (some r.defers)
    | _ => none

/-- What a run tells. -/
inductive J where
  | code (c : Code) (s : St) (A : AHeap) (e : AExit) (s' : St) (A' : AHeap)
  | ops (ops : Array Oper) (i : Nat) (l : List Oper) (s : St) (A : AHeap) (s' : St) (A' : AHeap)
  | app (fv : Value) (args : List Value) (A : AHeap) (v : Value) (A' : AHeap)
  | call (f : FuncId) (args : List Value) (A : AHeap) (v : Value) (A' : AHeap)
  | yld (l : Nat) (args : List Value) (A : AHeap) (v : Value) (A' : AHeap)
  | leave (ds : List Deferred) (A : AHeap) (A' : AHeap)

def AHeap.start (A : AHeap) (s : St) (params : Array Tmp) (assign body : Code) : Option Nat → AHeap × Nat × List Deferred
  | some D => (A.push (.loop { state := .ready, pending := none, fn := s.fn, n := s.n, tmps := s.tmps, params, assign, body, defers := D }), A.next, s.ds)
  | none => ((A.push .marks).push (.loop { state := .ready, pending := none, fn := s.fn, n := s.n, tmps := s.tmps, params, assign, body, defers := A.next }), A.next + 1,
      { target := .collected A.next, args := #[] } :: s.ds)

/-! ### Regions whose order is drawn -/
def edgeOn (o : Oper) (k : Nat) : Bool := o.after.any fun e => Region.binds .any e && e.on == k

/-- In every order: k ahead of i. -/
inductive Pre (ops : Array Oper) : Nat → Nat → Prop where
  | edge {k i : Nat} (h : edgeOn (ops.getD i default) k = true) : Pre ops k i
  | trans {k j i : Nat} (h : Pre ops k j) (h' : Pre ops j i) : Pre ops k i

/-- What the operations of a drawn region do, whatever their order: the first 'm' leave what is there, and may make new objects; the others turn things, one behind the other. 'Hs', 'He': the heap ahead of one, and behind it; 'G': the heaps of the latter ones; 'rho': what an operation may look at; 'W': is it wanted? 'isC': is it a call? 'st': it tells the same ahead of the latter ones and behind them. -/
structure Draw where
  m : Nat
  Hs : Nat → AHeap
  He : Nat → AHeap
  G : Nat → AHeap
  val : Nat → Value
  tF : T Value
  rho : Nat → Operand → Option Value
  W : Nat → Bool
  isC : Nat → Bool
  st : Nat → Bool
  fv : Nat → Value
  args : Nat → List Value

/-- In each mode the operations can be put in an order. -/
def lowEdges (ops : Array Oper) : Prop := ∀ m : Region.Mode, ∃ r : Nat → Nat, ∀ i, i < ops.size → ∀ e ∈ (ops.getD i default).after, Region.binds m e = true → e.on < ops.size ∧ r e.on < r i

structure Draw.Ok (ops : Array Oper) (s : St) (A : AHeap) (E : Env P) (d : Draw) : Prop where
  low : lowEdges ops
  mle : d.m ≤ ops.size
  rho : ∀ i, i < ops.size → ∀ x v, d.rho i x = some v → match x with
    | .tmp t => ((∀ k, k < ops.size → (ops.getD k default).dst = some t → Pre ops k i) ∧ v = (d.tF.get t).getD undef) ∨
      ((∀ k, k < ops.size → (ops.getD k default).dst = some t → Pre ops i k ∨ k = i) ∧ v = (s.tmps.get t).getD undef)
    | x => s.ev x = some v
  want : ∀ i, i < ops.size → match (ops.getD i default).guard with
    | none => d.W i = true
    | some (j, b) => ∃ t, (ops.getD j default).dst = some t ∧ j < ops.size ∧ Pre ops j i ∧ d.W i = (boolOf (d.tF.get t) == some b)
  op : ∀ i, i < ops.size → d.W i = true → d.isC i = false → aop E (ops.getD i default) (d.rho i) (d.Hs i) = some (d.val i, d.He i)
  call : ∀ i, i < ops.size → d.W i = true → d.isC i = true → ∃ c f, (ops.getD i default).op = .call c ∧ c.callee = .value f ∧ d.rho i f = some (d.fv i) ∧ evList (d.rho i) c.args.toList = some (d.args i)
  un : ∀ i, i < ops.size → d.W i = false → d.val i = undef ∧ d.He i = d.Hs i
  dst : ∀ i, i < ops.size → ∀ t, (ops.getD i default).dst = some t → t < s.n ∧ d.tF.get t = some (d.val i)
  dst1 : ∀ i k, i < ops.size → k < ops.size → ∀ t, (ops.getD i default).dst = some t → (ops.getD k default).dst = some t → i = k
  rest : ∀ t, (∀ i, i < ops.size → (ops.getD i default).dst ≠ some t) → d.tF.get t = s.tmps.get t
  -- the latter ones
  lat : ∀ q, d.m + q < ops.size → d.Hs (d.m + q) = d.G q ∧ d.He (d.m + q) = d.G (q + 1)
  chain : ∀ j, d.m ≤ j → j + 1 < ops.size → Pre ops j (j + 1)
  steady : ∀ i, i < d.m → d.st i = true → d.isC i = false ∧ d.He i = d.Hs i ∧ (d.W i = true → ∀ q, d.m + q ≤ ops.size → aop E (ops.getD i default) (d.rho i) (d.G q) = some (d.val i, d.G q))
  ahead : ∀ i, i < d.m → d.st i = false → d.m < ops.size → Pre ops i d.m
  -- the first ones' heaps
  nx : ∀ i, i < d.m → A.next ≤ (d.Hs i).next ∧ (d.He i).next ≤ (d.G 0).next
  apart : ∀ i k j, i < d.m → k < d.m → (d.Hs i).next ≤ j → j < (d.He i).next → (d.Hs k).next ≤ j → j < (d.He k).next → i = k
  stays : ∀ i, i < d.m → ∀ j o, (d.Hs i).obj j = some o → (d.He i).obj j = some o
  into : ∀ i, i < d.m → ∀ j o, (d.He i).obj j = some o → (d.G 0).obj j = some o
  from' : ∀ i, i < d.m → ∀ j o, (d.Hs i).obj j = some o → A.obj j = some o ∨ ∃ k, k < d.m ∧ Pre ops k i ∧ (d.Hs k).next ≤ j ∧ j < (d.He k).next ∧ (d.He k).obj j = some o
  whole : ∀ j o, (d.G 0).obj j = some o → A.obj j = some o ∨ ∃ k, k < d.m ∧ (d.Hs k).next ≤ j ∧ j < (d.He k).next ∧ (d.He k).obj j = some o
  old : ∀ j o, A.obj j = some o → (d.G 0).obj j = some o ∧ j < A.next
  nx0 : A.next ≤ (d.G 0).next

inductive BS (E : Env P) (X : FuncId → List Value → AHeap → Value → AHeap → Prop) : J → Prop where
  | skip {s A} : BS E X (.code .skip s A .normal s A)
  | label {l s A} : BS E X (.code (.label l) s A .normal s A)
  | seq {a b s s₁ s₂ A A₁ A₂ e} (h : BS E X (.code a s A .normal s₁ A₁)) (h' : BS E X (.code b s₁ A₁ e s₂ A₂)) : BS E X (.code (.seq a b) s A e s₂ A₂)
  | seqOut {a b s s₁ A A₁ e} (h : BS E X (.code a s A e s₁ A₁)) (he : e ≠ .normal) : BS E X (.code (.seq a b) s A e s₁ A₁)
  | cond {c x y s s₁ A A₁ e t} (hc : s.ev c = some (.bool t)) (h : BS E X (.code (if t then x else y) s A e s₁ A₁)) : BS E X (.code (.cond c x y) s A e s₁ A₁)
  | block {id c s s₁ A A₁ e} (h : BS E X (.code c s A e s₁ A₁)) : BS E X (.code (.block id c) s A (if e = .exit id then .normal else e) s₁ A₁)
  | loop {c s s₁ s₂ A A₁ A₂ e} (h : BS E X (.code c s A .normal s₁ A₁)) (h' : BS E X (.code (.loop c) s₁ A₁ e s₂ A₂)) : BS E X (.code (.loop c) s A e s₂ A₂)
  | loopOut {c s s₁ A A₁ e} (h : BS E X (.code c s A e s₁ A₁)) (he : e ≠ .normal) : BS E X (.code (.loop c) s A e s₁ A₁)
  | exit {id s A} : BS E X (.code (.exit id) s A (.exit id) s A)
  | ret {s A} : BS E X (.code .ret s A .ret s A)
  | region {id ops s s₁ A A₁} (h : BS E X (.ops ops 0 ops.toList s A s₁ A₁)) : BS E X (.code (.region id ops false) s A .normal s₁ A₁)
  | range {f params assign body s A A₁ A₂ fv D L ds v r} (hf : s.ev f = some fv) (hg : ∃ g first cap, fv = .func (.func g) first cap) (hD : loopsAround A s.rd = some D) (hs : A.start s params assign body D = (A₁, L, ds))
      (h : BS E X (.app fv [.func (.yield L) #[] #[]] A₁ v A₂)) (hr : A₂.obj L = some (.loop r)) (hb : r.state ≠ .busy) (hp : r.pending = none) :
      BS E X (.code (.rangeFunc f params assign body) s A .normal { s with ds } (A₂.set L (.loop { r with state := .exhausted })))
  | rangeOut {f params assign body s s₁ A A₁ A₂ A₃ fv D L ds v r c e} (hf : s.ev f = some fv) (hg : ∃ g first cap, fv = .func (.func g) first cap) (hD : loopsAround A s.rd = some D) (hs : A.start s params assign body D = (A₁, L, ds))
      (h : BS E X (.app fv [.func (.yield L) #[] #[]] A₁ v A₂)) (hr : A₂.obj L = some (.loop r)) (hb : r.state ≠ .busy) (hp : r.pending = some c)
      (h' : BS E X (.code c { s with ds } (A₂.set L (.loop { r with state := .exhausted })) e s₁ A₃)) :
      BS E X (.code (.rangeFunc f params assign body) s A e s₁ A₃)
  | regionD {id ops s A d} (hd : Draw.Ok ops s A E d) (hn : ∀ i, i < ops.size → (d.Hs i).next ≤ (d.He i).next)
      (hbs : ∀ i, i < ops.size → d.W i = true → d.isC i = true → BS E X (.app (d.fv i) (d.args i) (d.Hs i) (d.val i) (d.He i))) :
      BS E X (.code (.region id ops true) s A .normal { s with tmps := d.tF } (d.G (ops.size - d.m)))
  | weakApp {fv args A B v A' B'} (h : BS E X (.app fv args A v A')) (h0 : ∀ j, A.obj j = B.obj j) (hn : A.next = B.next) (h1 : ∀ j o, B'.obj j = some o → A'.obj j = some o) (hn' : B'.next = A'.next) :
      BS E X (.app fv args B v B')
  | nil {ops i s A} : BS E X (.ops ops i [] s A s A)
  | opSkip {ops i o l s s₁ s₂ A A₁} (hw : s.wants ops o = false) (hp : s.put o.dst undef = some s₁) (h : BS E X (.ops ops (i + 1) l s₁ A s₂ A₁)) : BS E X (.ops ops i (o :: l) s A s₂ A₁)
  | op {ops i o l s s₁ s₂ A A₁ A₂ v} (hw : s.wants ops o = true) (ho : aop E o s.ev A = some (v, A₁)) (hp : s.put o.dst v = some s₁) (h : BS E X (.ops ops (i + 1) l s₁ A₁ s₂ A₂)) :
      BS E X (.ops ops i (o :: l) s A s₂ A₂)
  | opCall {ops i o l s s₁ s₂ A A₁ A₂ v c f fv args} (hw : s.wants ops o = true) (ho : o.op = .call c) (hc : c.callee = .value f) (hf : s.ev f = some fv) (ha : evList s.ev c.args.toList = some args)
      (hi : BS E X (.app fv args A v A₁)) (hp : s.put o.dst v = some s₁) (h : BS E X (.ops ops (i + 1) l s₁ A₁ s₂ A₂)) : BS E X (.ops ops i (o :: l) s A s₂ A₂)
  | opDefer {ops i o l s s₁ s₂ A A₁ c f fn first cap args} (hw : s.wants ops o = true) (hrd : s.rd = none) (ho : o.op = .defer c) (hc : c.callee = .value f) (hf : s.ev f = some (.func (.func fn) first cap))
      (ha : evList s.ev c.args.toList = some args) (hp : ({ s with ds := { target := .fn (.func fn) cap, args := first ++ args.toArray } :: s.ds } : St).put o.dst undef = some s₁)
      (h : BS E X (.ops ops (i + 1) l s₁ A s₂ A₁)) : BS E X (.ops ops i (o :: l) s A s₂ A₁)
  | appFn {f first cap args A v A'} (h : BS E X (.call f (first.toList ++ args ++ cap.toList) A v A')) : BS E X (.app (.func (.func f) first cap) args A v A')
  | appYield {l args A v A'} (h : BS E X (.yld l args A v A')) : BS E X (.app (.func (.yield l) #[] #[]) args A v A')
  | call {f args A A₁ A₂ fn c e s₁ l} (hf : E.fns f = some fn) (hb : fn.body = some c)
      (h : BS E X (.code c { fn := f, rd := none, n := args.length + (fn.ntmps - args.length), tmps := T.ofList args, ds := [] } A e s₁ A₁)) (he : e = .normal ∨ e = .ret)
      (h' : BS E X (.leave s₁.ds A₁ A₂)) (hr : aResults E s₁.tmps A₂ fn.results.toList = some l) : BS E X (.call f args A (oneOf l) A₂)
  | ext {f args A v A'} (h : X f args A v A') : BS E X (.call f args A v A')
  | yield {l args A A₁ A₃ r r₁ r₃ s₁ s₂ e} (hl : A.obj l = some (.loop r)) (hn : args.length = r.params.size) (hps : ∀ i ∈ r.params.toList, i < r.n)
      (h : BS E X (.code r.assign { fn := r.fn, rd := some l, n := r.n, tmps := setAll r.tmps (r.params.toList.zip args), ds := [] } A .normal s₁ A₁))
      (hl1 : A₁.obj l = some (.loop r₁)) (hst : r₁.state = .ready) (h' : BS E X (.code r.body s₁ (A₁.set l (.loop { r₁ with state := .busy })) e s₂ A₃)) (hds : s₂.ds = [])
      (hl3 : A₃.obj l = some (.loop r₃)) :
      BS E X (.yld l args A (.bool (jumpOf e).isNone) (A₃.set l (.loop { r₃ with state := if (jumpOf e).isNone then .ready else .done, pending := jumpOf e })))
  | leaveNil {A} : BS E X (.leave [] A A)
  | leaveMark {d ds A A' D} (ht : d.target = .collected D) (hD : A.obj D = some .marks) (h : BS E X (.leave ds (A.set D .dead) A')) : BS E X (.leave (d :: ds) A A')
  | leaveCall {d ds A A₁ A' fn cap v} (ht : d.target = .fn (.func fn) cap) (hi : BS E X (.call fn (d.args.toList ++ cap.toList) A v A₁)) (h : BS E X (.leave ds A₁ A')) : BS E X (.leave (d :: ds) A A')

end Go.Abs

/- The simulation: what the big-step relation tells, the machine does. -/
namespace Go.Abs
open Go
variable {P : Program}

/-! ### Deferred calls, activations -/
inductive DR (ι : Inj) : Deferred → Deferred → Prop where
  | mark {D : Nat} {l : Loc} (h : ι D = some l) : DR ι { target := .collected D, args := #[] } { target := .collected l.blk, args := #[] }
  | fn {f : FuncId} {c c' a a' : Array Value} (hc : VRs ι c c') (ha : VRs ι a a') : DR ι { target := .fn (.func f) c, args := a } { target := .fn (.func f) c', args := a' }

inductive DsR (ι : Inj) : List Deferred → List Deferred → Prop where
  | nil : DsR ι [] []
  | cons {d d' ds ds'} (h : DR ι d d') (h' : DsR ι ds ds') : DsR ι (d :: ds) (d' :: ds')

theorem DR.mono {ι ι' : Inj} (hι : ι.le ι') {d d' : Deferred} (h : DR ι d d') : DR ι' d d' := by
  cases h with
  | mark h => exact .mark (hι _ _ h)
  | fn hc ha => exact .fn (hc.mono hι) (ha.mono hι)
theorem DsR.mono {ι ι' : Inj} (hι : ι.le ι') {d d' : List Deferred} (h : DsR ι d d') : DsR ι' d d' := by
  induction h with
  | nil => exact .nil
  | cons h _ ih => exact .cons (h.mono hι) ih

/-- 'ro': the round that the activation is of. -/
structure StRel (ι : Inj) (s : St) (ro : Option Nat) (a : Act) : Prop where
  rd : match s.rd with
    | none => ro = none
    | some i => ∃ l, ι i = some l ∧ ro = some l.blk
  tmps : TR ι s.n s.tmps a.tmps
  ds : DsR ι s.ds a.defers

theorem StRel.mono {ι ι' : Inj} (hι : ι.le ι') {s : St} {ro : Option Nat} {a : Act} (h : StRel ι s ro a) : StRel ι' s ro a := by
  refine ⟨?_, h.tmps.mono hι, h.ds.mono hι⟩
  have := h.rd
  cases e : s.rd with
  | none => rw [e] at this; exact this
  | some i => rw [e] at this; obtain ⟨l, h1, h2⟩ := this; exact ⟨l, hι _ _ h1, h2⟩

theorem StRel.ev {ι : Inj} {s : St} {ro : Option Nat} {a : Act} (h : StRel ι s ro a) : ∀ x v, s.ev x = some v → VR ι v (a.eval x) := by
  intro x v hv
  cases x with
  | tmp t =>
    simp only [St.ev, Option.some.injEq] at hv
    subst hv
    exact h.tmps.2 t
  | const c =>
    simp only [St.ev] at hv
    split at hv
    · rename_i hf; cases hv; exact flat_refl hf
    · cases hv
  | global g => simp [St.ev] at hv
  | func f =>
    simp only [St.ev, Option.some.injEq] at hv
    subst hv
    exact .func rfl (fun i h => by simp at h) rfl (fun i h => by simp at h)

theorem St.put_same {s s₁ : St} {d : Option Tmp} {v : Value} (h : s.put d v = some s₁) : s₁.fn = s.fn ∧ s₁.rd = s.rd ∧ s₁.ds = s.ds := by
  unfold St.put at h
  split at h
  · cases h; exact ⟨rfl, rfl, rfl⟩
  · split at h
    · cases h; exact ⟨rfl, rfl, rfl⟩
    · cases h

theorem StRel.put {ι : Inj} {s s₁ : St} {ro : Option Nat} {a : Act} {d : Option Tmp} {v v' : Value} (h : StRel ι s ro a) (hp : s.put d v = some s₁) (hv : VR ι v v') : StRel ι s₁ ro (a.put d v') := by
  unfold St.put at hp
  split at hp
  · cases hp; exact h
  · split at hp
    · rename_i hd; cases hp
      exact ⟨h.rd, h.tmps.set hv hd, h.ds⟩
    · cases hp

theorem StRel.wants {ι : Inj} {s : St} {ro : Option Nat} {a : Act} (h : StRel ι s ro a) (ops : Array Oper) (o : Oper) : Region.wanted o (yielded ops a.tmps) = s.wants ops o := by
  unfold Region.wanted St.wants
  cases o.guard with
  | none => rfl
  | some g =>
    obtain ⟨j, want⟩ := g
    simp only [yielded]
    cases (ops[j]?).bind (·.dst) with
    | none => simp
    | some d =>
      simp only [Option.bind_some]
      have hv := h.tmps.2 d
      have hs := h.tmps.1
      congr 1
      by_cases hd : d < a.tmps.size
      · simp only [Array.getD, hd, dite_true] at hv
        simp only [Array.getElem?_eq_getElem hd]
        simp only [Array.getInternal_eq_getElem] at hv
        generalize a.tmps[d] = x at hv
        cases hg : s.tmps.get d with
        | none => rw [hg] at hv; simp [undef] at hv; cases hv; simp [boolOf]
        | some y =>
          rw [hg] at hv
          simp at hv
          cases hv <;> simp [boolOf]
      · simp only [Array.getD, hd, dite_false] at hv
        simp only [Array.getElem?_eq_none (Nat.le_of_not_lt hd)]
        cases hg : s.tmps.get d with
        | none => simp [boolOf]
        | some y =>
          rw [hg] at hv
          simp [undef] at hv
          cases hv; simp [boolOf]

/-! ### What the machine does -/
/-- Where code arrives. -/
def Arr (P : Program) (m : Machine) (b : Frame) (k : List Item) (cs : List Frame) : AExit → Act → World → Prop
  | .normal, a, w => Steps P m (lone (b.atR a k) cs w)
  | .exit id, a, w => ∃ k₁, exitTo id k₁ = exitTo id k ∧ Steps P m (lone (b.atR a (.code (.exit id) :: k₁)) cs w)
  | .ret, a, w => ∃ k₁, Steps P m (lone (b.atR a (.code .ret :: k₁)) cs w)

theorem Arr.of_steps {m m₁ : Machine} {b : Frame} {k : List Item} {cs : List Frame} {e : AExit} {a : Act} {w : World} (h : Steps P m m₁) (h' : Arr P m₁ b k cs e a w) : Arr P m b k cs e a w := by
  cases e with
  | normal => exact h.trans h'
  | exit id => obtain ⟨k₁, q, s⟩ := h'; exact ⟨k₁, q, h.trans s⟩
  | ret => obtain ⟨k₁, s⟩ := h'; exact ⟨k₁, h.trans s⟩

/-- A call of a function by its number. -/
def CallTo (P : Program) (f : FuncId) (args : Array Value) (w : World) (v : Value) (w' : World) : Prop :=
  (callFunc f args).run P w = .ok (.value v) w' ∨
  ((callFunc f args).run P w = .ok (.enter f args) w ∧ ∀ kind cs, kind ≠ .early → ∃ fr, Steps P (lone (Frame.enter P f args kind) cs w) (lone fr cs w') ∧ fr.mode = .returning ∧ fr.defers = [] ∧
    fr.kind = kind ∧ fr.fn = f ∧ ∃ fn, P.funcs[f]? = some fn ∧ (results fn fr.tmps).run P w' = .ok v w')

def YieldTo (P : Program) (l : Nat) (args : Array Value) (w : World) (v : Value) (w' : World) : Prop :=
  ∃ f tm as bd, (Instr.yield l args).run P w = .ok (.round l f tm as bd) w ∧ ∀ c cs, Steps P (lone (Frame.round l f tm as bd .normal) (c :: cs) w) (lone (c.finish v) cs w')

/-- What is called as a value. -/
def AppTo (P : Program) (fv : Value) (args : Array Value) (w : World) (v : Value) (w' : World) : Prop :=
  (∃ f first cap, fv = .func (.func f) first cap ∧ CallTo P f (first ++ args ++ cap) w v w') ∨ (∃ l, fv = .func (.yield l) #[] #[] ∧ YieldTo P l args w v w')

def Sem' (P : Program) : J → Prop
  | .code c s A e s' A' => A.next ≤ A'.next ∧ s'.fn = s.fn ∧ s'.rd = s.rd ∧ ∀ ι w ro a, StRel ι s ro a → Real ι A w → Fresh ι A A' →
      ∃ ι' w' a', (∀ (b : Frame) (k : List Item) (cs : List Frame), b.kind ≠ .early → b.fn = s.fn → b.roundOf = ro → Arr P (lone (b.atR a (.code c :: k)) cs w) b k cs e a' w') ∧ StRel ι' s' ro a' ∧ Real ι' A' w' ∧ Ext ι A w ι' A' w'
  | .ops ops i l s A s' A' => A.next ≤ A'.next ∧ s'.fn = s.fn ∧ s'.rd = s.rd ∧ ∀ ι w ro a, ops.toList.drop i = l → StRel ι s ro a → Real ι A w → Fresh ι A A' →
      ∃ ι' w' a', (∀ (b : Frame) (k : List Item) (cs : List Frame), b.kind ≠ .early → b.fn = s.fn → b.roundOf = ro → Steps P (lone (b.atR a (.inRegion ops (List.range' i l.length) :: k)) cs w) (lone (b.atR a' (.inRegion ops [] :: k)) cs w')) ∧
        StRel ι' s' ro a' ∧ Real ι' A' w' ∧ Ext ι A w ι' A' w'
  | .app fv args A v A' => A.next ≤ A'.next ∧ ∀ ι w fv' args', VR ι fv fv' → VRl ι args args' → Real ι A w → Fresh ι A A' →
      ∃ ι' w' v', AppTo P fv' args'.toArray w v' w' ∧ VR ι' v v' ∧ Real ι' A' w' ∧ Ext ι A w ι' A' w'
  | .call f args A v A' => A.next ≤ A'.next ∧ ∀ ι w args', VRl ι args args' → Real ι A w → Fresh ι A A' →
      ∃ ι' w' v', CallTo P f args'.toArray w v' w' ∧ VR ι' v v' ∧ Real ι' A' w' ∧ Ext ι A w ι' A' w'
  | .yld l args A v A' => A.next ≤ A'.next ∧ ∀ ι w args', VRl ι args args' → Real ι A w → Fresh ι A A' →
      ∃ L ι' w' v', ι l = some L ∧ YieldTo P L.blk args'.toArray w v' w' ∧ VR ι' v v' ∧ Real ι' A' w' ∧ Ext ι A w ι' A' w'
  | .leave ds A A' => A.next ≤ A'.next ∧ ∀ ι w ds', DsR ι ds ds' → Real ι A w → Fresh ι A A' →
      ∃ ι' w', (∀ (fr : Frame) (cs : List Frame), fr.defers = ds' → fr.mode = .returning → Steps P (lone fr cs w) (lone { fr with defers := [] } cs w')) ∧ Real ι' A' w' ∧ Ext ι A w ι' A' w'

/-! ### Steps at an operation -/
section ops
variable {b : Frame} {a : Act} {k : List Item} {cs : List Frame} {w w' : World} {ops : Array Oper} {i : Nat} {rest : List Nat} {o : Oper}

theorem finish_op (ho : ops[i]? = some o) (v : Value) : (b.atR a (.inRegion ops (i :: rest) :: k)).finish v = b.atR (a.put o.dst v) (.inRegion ops rest :: k) := by
  rw [Frame.finish_atR, ho]; rfl

theorem step_value (ho : ops[i]? = some o) (hw : Region.wanted o (yielded ops a.tmps) = true) {v : Value} (h : (o.semAt b.roundOf a.eval).run P w = .ok (.value v) w') :
    step P (lone (b.atR a (.inRegion ops (i :: rest) :: k)) cs w) = .next (lone (b.atR (a.put o.dst v) (.inRegion ops rest :: k)) cs w') :=
  step_lone_go (by rw [stepGR_op ho hw, ← finish_op ho]; simp [stepG.apply, h])
theorem step_skip' (ho : ops[i]? = some o) (hw : Region.wanted o (yielded ops a.tmps) = true) (h : (o.semAt b.roundOf a.eval).run P w = .ok .skip w') :
    step P (lone (b.atR a (.inRegion ops (i :: rest) :: k)) cs w) = .next (lone (b.atR (a.put o.dst undef) (.inRegion ops rest :: k)) cs w') :=
  step_lone_go (by rw [stepGR_op ho hw, ← finish_op ho]; simp [stepG.apply, h])
theorem step_enter (ho : ops[i]? = some o) (hw : Region.wanted o (yielded ops a.tmps) = true) {f : FuncId} {args : Array Value} (h : (o.semAt b.roundOf a.eval).run P w = .ok (.enter f args) w') :
    step P (lone (b.atR a (.inRegion ops (i :: rest) :: k)) cs w) = .next (lone (Frame.enter P f args .normal) (b.atR a (.inRegion ops (i :: rest) :: k) :: cs) w') :=
  step_lone_go (by rw [stepGR_op ho hw]; simp [stepG.apply, h, Frame.atR])
theorem step_round (ho : ops[i]? = some o) (hw : Region.wanted o (yielded ops a.tmps) = true) {l : Nat} {f : FuncId} {tm : Array Value} {as bd : Code} (h : (o.semAt b.roundOf a.eval).run P w = .ok (.round l f tm as bd) w') :
    step P (lone (b.atR a (.inRegion ops (i :: rest) :: k)) cs w) = .next (lone (Frame.round l f tm as bd .normal) (b.atR a (.inRegion ops (i :: rest) :: k) :: cs) w') :=
  step_lone_go (by rw [stepGR_op ho hw]; simp [stepG.apply, h, Frame.atR])
theorem step_defer' (ho : ops[i]? = some o) (hw : Region.wanted o (yielded ops a.tmps) = true) {d : Deferred} (h : (o.semAt b.roundOf a.eval).run P w = .ok (.defer d) w') :
    step P (lone (b.atR a (.inRegion ops (i :: rest) :: k)) cs w) = .next (lone (b.atR ({ a with defers := d :: a.defers }.put o.dst undef) (.inRegion ops rest :: k)) cs w') := by
  have hfin := Frame.finish_atR b { a with defers := d :: a.defers } ops i rest k undef
  rw [ho] at hfin
  refine step_lone_go ?_
  rw [stepGR_op ho hw]
  simp only [stepG.apply, Sem.runT_eq, h, GStep.bare_after, if_true]
  exact congrArg (fun fr => GStep.go { frame := fr, callers := cs, status := .running, dying := none } w') hfin
end ops

/-- A frame that has returned hands its result to the frame below. -/
theorem step_back {fr c : Frame} {cs : List Frame} {w : World} {v : Value} {fn : Func} (hm : fr.mode = .returning) (hd : fr.defers = []) (hk : fr.kind = .normal) (hf : P.funcs[fr.fn]? = some fn)
    (hr : (results fn fr.tmps).run P w = .ok v w) : step P (lone fr (c :: cs) w) = .next (lone (c.finish v) cs w) :=
  step_leave_returned ⟨hm, hd, hk, fn, hf, hr⟩

end Go.Abs

/- The pieces of the simulation: loops over functions, results. -/
namespace Go.Abs
open Go
variable {P : Program}

theorem Steps.swap {m m' m₂ : Machine} (hs : step P m = step P m') (h : Steps P m m₂) (hne : m ≠ m₂) : Steps P m' m₂ := by
  obtain ⟨n, hn⟩ := h
  cases n with
  | zero => simp [runN] at hn; exact absurd hn hne
  | succ n => exact ⟨n + 1, by simp only [runN] at hn ⊢; rw [← hs]; exact hn⟩

theorem lone_todo {b : Frame} {a a' : Act} {k k' : List Item} {cs cs' : List Frame} {w w' : World} (h : lone (b.atR a k) cs w = lone (b.atR a' k') cs' w') : k = k' := by
  simp only [lone, Frame.atR, Machine.mk.injEq] at h
  have h1 := h.2.1
  have h2 : ∀ {x y : Goroutine}, (#[x] : Array Goroutine) = #[y] → x = y := fun e => by simpa using e
  have h3 := h2 h1
  have h4 := congrArg (fun g : Goroutine => g.frame.todo) h3
  exact h4

theorem Arr.swap {b : Frame} {a₀ : Act} {x y : Item} {k : List Item} {cs : List Frame} {w₀ : World} {e : AExit} {a : Act} {w : World}
    (hs : step P (lone (b.atR a₀ (x :: k)) cs w₀) = step P (lone (b.atR a₀ (y :: k)) cs w₀)) (hx : ∀ c, x = .code c → (∀ id, c ≠ .exit id) ∧ c ≠ .ret)
    (h : Arr P (lone (b.atR a₀ (x :: k)) cs w₀) b k cs e a w) : Arr P (lone (b.atR a₀ (y :: k)) cs w₀) b k cs e a w := by
  cases e with
  | normal => exact Steps.swap hs h fun e => by have := lone_todo e; simp at this
  | exit id =>
    obtain ⟨k₁, q, s⟩ := h
    refine ⟨k₁, q, Steps.swap hs s fun e => ?_⟩
    have := lone_todo e
    simp at this
    exact (hx _ this.1).1 id rfl
  | ret =>
    obtain ⟨k₁, s⟩ := h
    refine ⟨k₁, Steps.swap hs s fun e => ?_⟩
    have := lone_todo e
    simp at this
    exact (hx _ this.1).2 rfl

/-! ### Loops over functions -/
theorem run_getLoop {w : World} {l : Nat} {r : Loop} (h : w.heap[l]? = some (.loop r)) : (Instr.getLoop l).run P w = .ok r w := by
  simp [Instr.getLoop, getObj, Sem.run, h]
theorem run_setLoop {w : World} {l : Nat} {r : Loop} (h : w.heap[l]? = some (.loop r)) (o : Obj) : (setObj l o).run P w = .ok () { w with heap := w.heap.setIfInBounds l o } := by
  simp [setObj, Sem.run, h]

/-- The record of a loop. -/
theorem Real.loop {ι : Inj} {A : AHeap} {w : World} (h : Real ι A w) {i : Nat} {r : ALoop} (hi : A.obj i = some (.loop r)) : ∃ l r', ι i = some l ∧ w.heap[l.blk]? = some (.loop r') ∧ LoopRel ι r r' := by
  obtain ⟨l, hl, r', h1, h2⟩ := h.loc _ _ hi
  exact ⟨l, r', hl, h1, h2⟩

theorem Real.turnLoop {ι : Inj} {A : AHeap} {w : World} (h : Real ι A w) {i : Nat} {r q : ALoop} {l : Loc} (hi : A.obj i = some (.loop r)) (hl : ι i = some l) {q' : Loop} (hq : LoopRel ι q q') :
    Real ι (A.set i (.loop q)) { w with heap := w.heap.setIfInBounds l.blk (.loop q') } ∧ Ext ι A w ι (A.set i (.loop q)) { w with heap := w.heap.setIfInBounds l.blk (.loop q') } := by
  have hb := h.dom _ _ hl
  refine h.turn hi rfl hl (by simp) (fun b hb' => ?_) ⟨rfl, rfl, rfl⟩ (by simp) ⟨q', ?_, hq⟩
  · simp only [Array.getElem?_setIfInBounds]; rw [if_neg (fun e => hb' e.symm)]
  · simp [hb]

theorem start_sim {ι : Inj} {s : St} {ro : Option Nat} {a : Act} {A A₁ : AHeap} {w : World} {ps : Array Tmp} {as bd : Code} {D : Option Nat} {L : Nat} {ds : List Deferred}
    (hs : StRel ι s ro a) (hD : loopsAround A s.rd = some D) (h : A.start s ps as bd D = (A₁, L, ds)) (hr : Real ι A w) (hF : Fresh ι A A₁) :
    ∃ ι' w' l mark, (Instr.enterLoop s.fn a.tmps ps as bd ro).run P w = .ok (l.blk, mark) w' ∧ ι' L = some l ∧ DsR ι' ds (mark ++ a.defers) ∧ Real ι' A₁ w' ∧ Ext ι A w ι' A₁ w' := by
  cases hrd : s.rd with
  | none =>
    have hro : ro = none := by have := hs.rd; rw [hrd] at this; exact this
    rw [hrd] at hD
    simp only [loopsAround, Option.some.injEq] at hD
    subst hD
    simp only [AHeap.start, Prod.mk.injEq] at h
    obtain ⟨rfl, rfl, rfl⟩ := h
    have hn1 : ι A.next = none := hF _ (Nat.le_refl _) (by simp; omega)
    obtain ⟨r1, x1⟩ := hr.push hn1 (.deferred (some [])) .marks ⟨w.heap.size, 0, 0, 0⟩ rfl (by simp [ObjRel])
    have hn2 : (ι.put A.next ⟨w.heap.size, 0, 0, 0⟩) (A.next + 1) = none := by
      rw [Inj.put_other _ _ (by omega)]; exact hF _ (by omega) (by simp)
    have hle : (ι.put A.next ⟨w.heap.size, 0, 0, 0⟩).le ((ι.put A.next ⟨w.heap.size, 0, 0, 0⟩).put (A.next + 1) ⟨w.heap.size + 1, 0, 0, 0⟩) := Inj.le_put hn2
    have hle0 : ι.le (ι.put A.next ⟨w.heap.size, 0, 0, 0⟩) := Inj.le_put hn1
    obtain ⟨r2, x2⟩ := r1.push (by simpa using hn2) (.loop { state := .ready, pending := none, fn := s.fn, tmps := a.tmps, params := ps, assign := as, body := bd, defers := w.heap.size })
      (.loop { state := .ready, pending := none, fn := s.fn, n := s.n, tmps := s.tmps, params := ps, assign := as, body := bd, defers := A.next }) ⟨w.heap.size + 1, 0, 0, 0⟩ (by simp)
      ⟨{ state := .ready, pending := none, fn := s.fn, tmps := a.tmps, params := ps, assign := as, body := bd, defers := w.heap.size }, by rw [Array.getElem?_push, if_pos (by simp)], rfl, rfl, rfl, rfl, rfl, rfl, hs.tmps.mono (Inj.le_trans hle0 hle), ⟨w.heap.size, 0, 0, 0⟩, hle _ _ (Inj.put_same _ _ _), rfl⟩
    refine ⟨_, _, ⟨w.heap.size + 1, 0, 0, 0⟩, [{ target := .collected w.heap.size, args := #[] }], ?_, ?_, ?_, r2, x1.trans x2⟩
    · simp [Instr.enterLoop, hro]; rfl
    · simp only [AHeap.next_push]; exact Inj.put_same _ _ _
    · exact .cons (.mark (l := ⟨w.heap.size, 0, 0, 0⟩) (hle _ _ (Inj.put_same _ _ _))) (hs.ds.mono (Inj.le_trans hle0 hle))
  | some i =>
    have hro : ∃ l, ι i = some l ∧ ro = some l.blk := by have := hs.rd; rw [hrd] at this; exact this
    rw [hrd] at hD
    obtain ⟨l, hl, hro⟩ := hro
    simp only [loopsAround] at hD
    split at hD
    · rename_i r hobj
      cases hD
      simp only [AHeap.start, Prod.mk.injEq] at h
      obtain ⟨rfl, rfl, rfl⟩ := h
      obtain ⟨l', r', hl', h1, h2⟩ := hr.loop hobj
      rw [hl] at hl'; cases hl'
      obtain ⟨_, _, _, _, _, _, _, ld, hld, hdd⟩ := h2
      have hn1 : ι A.next = none := hF _ (Nat.le_refl _) (by simp)
      have hle : ι.le (ι.put A.next ⟨w.heap.size, 0, 0, 0⟩) := Inj.le_put hn1
      obtain ⟨r2, x2⟩ := hr.push hn1 (.loop { state := .ready, pending := none, fn := s.fn, tmps := a.tmps, params := ps, assign := as, body := bd, defers := r'.defers })
        (.loop { state := .ready, pending := none, fn := s.fn, n := s.n, tmps := s.tmps, params := ps, assign := as, body := bd, defers := r.defers }) ⟨w.heap.size, 0, 0, 0⟩ rfl
        ⟨{ state := .ready, pending := none, fn := s.fn, tmps := a.tmps, params := ps, assign := as, body := bd, defers := r'.defers }, by simp, rfl, rfl, rfl, rfl, rfl, rfl, hs.tmps.mono hle, ld, hle _ _ hld, hdd⟩
      refine ⟨_, _, ⟨w.heap.size, 0, 0, 0⟩, [], ?_, Inj.put_same _ _ _, hs.ds.mono hle, r2, x2⟩
      simp [Instr.enterLoop, hro, run_getLoop h1]
    · cases hD

theorem stepR_rangeValue {b : Frame} {a : Act} {k : List Item} {cs : List Frame} {w : World} {g : Operand} {ps : Array Tmp} {assign body : Code} {l : Nat} {mark : List Deferred} {w₁ w₁' w₂ : World} {d : Deferred} {v : Value}
    (he : (Instr.enterLoop b.fn a.tmps ps assign body b.roundOf).run P w = .ok (l, mark) w₁)
    (hres : (resolve a.eval (rangeCall g l) 0).run P w₁ = .ok d w₁') (hinv : (invoke d.target d.args).run P w₁' = .ok (.value v) w₂) :
    step P (lone (b.atR a (.code (.rangeFunc g ps assign body) :: k)) cs w) = .next (lone (b.atR { a with defers := mark ++ a.defers } (.endRangeFunc l :: k)) cs w₂) :=
  step_lone_go (by
    have hev := Frame.eval_atR b { a with defers := mark ++ a.defers } (.inRangeFunc l :: k)
    simp only [Frame.atR] at hev
    have hres' : Sem.run P (resolve ({ tmps := a.tmps, defers := mark ++ a.defers } : Act).eval { callee := .value g, args := #[.const (.func (.yield l) #[] #[])], argTypes := #[] } 0) w₁ = .ok d w₁' := hres
    simp [stepG, stepG.exec, Frame.atR, Sem.runT_eq, he, GStep.bare_after, stepG.apply, hev, Sem.run_bind, hres', hinv, Result.andThen, Frame.finish])

/-! ### Results -/
theorem aResults_sim {E : Env P} {ι : Inj} {n : Nat} {t : T Value} {a : Array Value} {A : AHeap} {w : World} (ht : TR ι n t a) (hr : Real ι A w) : ∀ {rs : List ResultVar} {l : List Value}, aResults E t A rs = some l →
    ∃ l', (rs.mapM (fun r => match r with
      | .tmp t => pure (a.getD t undef)
      | .cell b ty => do loadVar ty (← asAddr (a.getD b undef)) : ResultVar → Sem Value)).run P w = .ok l' w ∧ VRl ι l l'
  | [], l, h => by simp [aResults] at h; subst h; exact ⟨[], by simp, .nil⟩
  | .tmp i :: r, l, h => by
    simp only [aResults] at h
    split at h
    · rename_i l1 h1
      cases h
      obtain ⟨l', q1, q2⟩ := aResults_sim ht hr h1
      exact ⟨a.getD i undef :: l', by simp only [List.mapM_cons, Sem.run_bind, Sem.run_pure, Result.andThen_ok, q1], .cons (ht.2 i) q2⟩
    · cases h
  | .cell b ty :: r, l, h => by
    simp only [aResults] at h
    split at h
    · rename_i v hv
      split at h
      · rename_i l1 h1
        cases h
        obtain ⟨l', q1, q2⟩ := aResults_sim ht hr h1
        have hb := ht.2 b
        obtain ⟨v', p1, p2⟩ := aLoad_sim hv hb hr
        refine ⟨v' :: l', ?_, .cons p2 q2⟩
        have p1' : (do loadVar ty (← asAddr (a.getD b undef)) : Sem Value).run P w = .ok v' w := by
          unfold aLoad at hv
          split at hv
          · rename_i i off hg
            rw [hg] at hb
            obtain ⟨l, hl, e⟩ := hb.ptr_inv
            rw [e] at p1 ⊢
            simpa [Instr.loadAt, Instr.sureAddr, asAddr] using p1
          · cases hv
        simp only [List.mapM_cons, Sem.run_bind, p1', Result.andThen_ok, q1]
        simp only [Sem.run_bind] at p1'
        simp [p1', q1]
      · cases h
    · cases h

theorem oneOf_VR {ι : Inj} {l l' : List Value} (h : VRl ι l l') : VR ι (oneOf l) (oneOf l') := by
  unfold oneOf
  cases l with
  | nil => obtain rfl := h.inv_nil; exact .tuple rfl (fun i h => by simp at h)
  | cons x r =>
    obtain ⟨x', r', rfl, h1, h2⟩ := h.inv_cons
    cases r with
    | nil => obtain rfl := h2.inv_nil; exact h1
    | cons y r =>
      obtain ⟨y', r'', rfl, h3, h4⟩ := h2.inv_cons
      have := h.to_array
      exact .tuple this.1 this.2

theorem run_results {fn : Func} {tmps : Array Value} {w : World} {l : List Value} (h : (fn.results.toList.mapM (fun r => match r with
      | .tmp t => pure (tmps.getD t undef)
      | .cell b ty => do loadVar ty (← asAddr (tmps.getD b undef)) : ResultVar → Sem Value)).run P w = .ok l w) : (results fn tmps).run P w = .ok (oneOf l) w := by
  unfold results
  have h' : (fn.results.mapM (fun r => match r with
      | .tmp t => pure (tmps.getD t undef)
      | .cell b ty => do loadVar ty (← asAddr (tmps.getD b undef)) : ResultVar → Sem Value)).run P w = .ok l.toArray w := by
    rw [← Array.toArray_toList (xs := fn.results), List.mapM_toArray, Sem.run_map, h]
    rfl
  simp only [Sem.run_bind]
  refine (congrArg (fun r => Result.andThen r _) h').trans ?_
  simp only [Result.andThen_ok]
  unfold oneOf
  match l with
  | [] => simp
  | [x] => simp
  | x :: y :: r => simp

end Go.Abs

/- The simulation theorem. -/
namespace Go.Abs
open Go
variable {P : Program}

theorem exitTo_code (id : Nat) (c : Code) (k : List Item) : exitTo id (.code c :: k) = exitTo id k := rfl
theorem exitTo_loop (id : Nat) (c : Code) (k : List Item) : exitTo id (.inLoop c :: k) = exitTo id k := rfl

/-- What leaves a piece of code other than by its end leaves what it stands in. -/
theorem Arr.pass {m : Machine} {b : Frame} {x : Item} {k : List Item} {cs : List Frame} {e : AExit} {a : Act} {w : World} (he : e ≠ .normal) (hx : ∀ id, exitTo id (x :: k) = exitTo id k)
    (h : Arr P m b (x :: k) cs e a w) : Arr P m b k cs e a w := by
  cases e with
  | normal => exact absurd rfl he
  | exit id => obtain ⟨k₁, q, s⟩ := h; exact ⟨k₁, q.trans (hx id), s⟩
  | ret => exact h

theorem LoopRel.set {ι : Inj} {r : ALoop} {r' : Loop} (h : LoopRel ι r r') (st : LoopState) (p : Option Code) : LoopRel ι { r with state := st, pending := p } { r' with state := st, pending := p } := by
  obtain ⟨_, _, a, b, c, d, e, f⟩ := h
  exact ⟨rfl, rfl, a, b, c, d, e, f⟩
theorem LoopRel.setState {ι : Inj} {r : ALoop} {r' : Loop} (h : LoopRel ι r r') (st : LoopState) : LoopRel ι { r with state := st } { r' with state := st } := by
  obtain ⟨_, p, a, b, c, d, e, f⟩ := h
  exact ⟨rfl, p, a, b, c, d, e, f⟩

/-- An operation that calls a value. -/
theorem app_step {b : Frame} {a : Act} {k : List Item} {cs : List Frame} {w w' : World} {ops : Array Oper} {i : Nat} {rest : List Nat} {o : Oper} {c : Call} {f : Operand} {v : Value}
    (ho : ops[i]? = some o) (hw : Region.wanted o (yielded ops a.tmps) = true) (hop : o.op = .call c) (hc : c.callee = .value f) (h : AppTo P (a.eval f) (c.args.map a.eval) w v w') :
    Steps P (lone (b.atR a (.inRegion ops (i :: rest) :: k)) cs w) (lone (b.atR (a.put o.dst v) (.inRegion ops rest :: k)) cs w') := by
  have hsem : o.semAt b.roundOf a.eval = execOp a.eval o := Oper.semAt_eq _ _ _ (fun c' e => by rw [hop] at e; cases e)
  have hex : execOp a.eval o = (do let d ← Deferred.ofValue (a.eval f) (c.args.map a.eval); invoke d.target d.args) := by
    unfold execOp; rw [hop]; simp only [resolve, hc]
  rcases h with ⟨g, first, cap, hf, hcall⟩ | ⟨l, hf, fn, tm, as, bd, hy, hs⟩
  · have hrun : (execOp a.eval o).run P w = (callFunc g (first ++ c.args.map a.eval ++ cap)).run P w := by
      rw [hex, hf]; simp [Deferred.ofValue, invoke]
    rcases hcall with hv | ⟨he, hs⟩
    · exact .one (step_value ho hw (by rw [hsem, hrun]; exact hv))
    · obtain ⟨fr, q, q1, q2, q3, q4, fnn, q5, q6⟩ := hs .normal (b.atR a (.inRegion ops (i :: rest) :: k) :: cs) (by simp)
      refine .head (step_enter ho hw (by rw [hsem, hrun]; exact he)) (q.trans (.one ?_))
      rw [← finish_op ho]
      exact step_back q1 q2 q3 (q4 ▸ q5) q6
  · have hrun : (execOp a.eval o).run P w = (Instr.yield l (c.args.map a.eval)).run P w := by
      rw [hex, hf]; simp [Deferred.ofValue, invoke]
    refine .head (step_round ho hw (by rw [hsem, hrun]; exact hy)) ?_
    rw [← finish_op ho]
    exact hs _ _

theorem setAll_sim {ι : Inj} {n : Nat} : ∀ {ps : List Tmp} {args args' : List Value} {t : T Value} {a : Array Value}, (∀ i ∈ ps, i < n) → VRl ι args args' → TR ι n t a →
    TR ι n (setAll t (ps.zip args)) ((ps.zip args').foldl (fun tmps (p : Tmp × Value) => tmps.setIfInBounds p.1 p.2) a)
  | [], args, args', t, a, _, _, h => by simp [setAll]; exact h
  | p :: ps, [], args', t, a, _, hv, h => by obtain rfl := hv.inv_nil; simp [setAll]; exact h
  | p :: ps, v :: args, args', t, a, hp, hv, h => by
    obtain ⟨v', args'', rfl, h1, h2⟩ := hv.inv_cons
    simp only [List.zip_cons_cons, setAll, List.foldl_cons]
    exact setAll_sim (fun i hi => hp i (by simp [hi])) h2 (h.set h1 (hp p (by simp)))

theorem TR_ofList {ι : Inj} {args args' : List Value} (m : Nat) (h : VRl ι args args') : TR ι (args.length + (m - args.length)) (T.ofList args) (args'.toArray ++ Array.replicate (m - args'.toArray.size) undef) := by
  refine ⟨by simp [h.1], fun i => ?_⟩
  rw [T.get_ofList]
  by_cases hi : i < args.length
  · have hi' : i < args'.length := h.1 ▸ hi
    simp [Array.getD, hi, hi', Array.getElem_append_left]
    have h2 : i < args'.length + (m - args'.length) := by omega
    simp [h2]
    exact h.2 i hi hi'
  · have hi' : ¬ i < args'.length := h.1 ▸ hi
    rw [List.getElem?_eq_none (by omega)]
    simp only [Option.getD_none, Array.getD]
    split
    · rename_i hlt
      simp at hlt
      have : (args'.toArray ++ Array.replicate (m - args'.toArray.size) undef)[i]'(by simpa using hlt) = undef := by
        rw [Array.getElem_append_right (by simp; omega)]; simp
      simp only [Array.getInternal_eq_getElem]
      rw [this]; exact VR.undef ι
    · exact VR.undef ι

theorem aAlloc_next {E : Env P} {t : TypeId} {A A' : AHeap} {v : Value} (h : aAlloc E t A = some (v, A')) : A.next ≤ A'.next := by
  unfold aAlloc at h
  split at h
  · cases h
  · split at h
    · cases h
    · split at h
      · cases h; simp
      · cases h
theorem aBuildSlice_next {E : Env P} {t : TypeId} {n : Nat} {ps : List (Nat × Value)} {A A' : AHeap} {v : Value} (h : aBuildSlice E t n ps A = some (v, A')) : A.next ≤ A'.next := by
  unfold aBuildSlice at h
  split at h
  · split at h
    · split at h
      · split at h
        · split at h
          · split at h
            · cases h; simp
            · cases h
          · cases h
        · cases h
      · cases h
    · cases h
  · cases h
theorem aMakeSlice_next {E : Env P} {t : TypeId} {x y : Value} {A A' : AHeap} {v : Value} (h : aMakeSlice E t x y A = some (v, A')) : A.next ≤ A'.next := by
  unfold aMakeSlice at h
  split at h
  · split at h
    · split at h
      · split at h
        · cases h; simp
        · cases h
      · cases h
    · cases h
  · cases h
theorem aStore_next {E : Env P} {t : TypeId} {x y : Value} {A A' : AHeap} (h : aStore E t x y A = some A') : A.next ≤ A'.next := by
  unfold aStore at h
  split at h
  · split at h
    · split at h
      · split at h
        · cases h; simp
        · cases h
      · cases h
    · cases h
  · cases h
theorem aMapUpdate_next {E : Env P} {t : TypeId} {x y z : Value} {A A' : AHeap} (h : aMapUpdate E t x y z A = some A') : A.next ≤ A'.next := by
  unfold aMapUpdate at h
  split at h
  · split at h
    · split at h
      · split at h
        · split at h
          · cases h; simp
          · cases h
        · cases h
      · cases h
    · cases h
  · cases h
theorem aCopy_next {E : Env P} {t : TypeId} {x y : Value} {A A' : AHeap} {v : Value} (h : aCopy E t x y A = some (v, A')) : A.next ≤ A'.next := by
  unfold aCopy at h
  split at h
  · split at h
    · split at h
      · split at h
        · cases h; simp
        · split at h
          · split at h
            · split at h
              · cases h; simp
              · cases h
            · cases h
          · cases h
      · cases h
    · cases h
  · cases h
theorem aAppend_next {E : Env P} {t tx : TypeId} {x y : Value} {A A' : AHeap} {v : Value} (h : aAppend E t tx x y A = some (v, A')) : A.next ≤ A'.next := by
  unfold aAppend at h
  split at h
  · split at h
    · split at h
      · split at h
        · split at h
          · split at h
            · cases h; simp
            · split at h
              · cases h; simp
              · cases h
          · split at h
            · cases h; simp
            · split at h
              · split at h
                · split at h
                  · cases h; simp
                  · cases h
                · split at h
                  · split at h
                    · split at h
                      · cases h; simp
                      · cases h
                    · split at h
                      · cases h; simp
                      · cases h
                  · cases h
              · cases h
          · cases h
        · cases h
      · cases h
    · cases h
  · cases h
theorem aBuiltin_next {E : Env P} {b : Builtin} {ts : Array TypeId} {args : List Value} {A A' : AHeap} {v : Value} (h : aBuiltin E b ts args A = some (v, A')) : A.next ≤ A'.next := by
  unfold aBuiltin at h
  split at h
  · obtain ⟨r, _, e⟩ := Option.map_eq_some_iff.1 h; cases e; exact Nat.le_refl _
  · obtain ⟨r, _, e⟩ := Option.map_eq_some_iff.1 h; cases e; exact Nat.le_refl _
  · exact aAppend_next h
  · exact aCopy_next h
  · obtain ⟨r, _, e⟩ := Option.map_eq_some_iff.1 h; cases e; exact Nat.le_refl _
  · obtain ⟨r, _, e⟩ := Option.map_eq_some_iff.1 h; cases e; exact Nat.le_refl _
  · cases h
theorem aop_next {E : Env P} {o : Oper} {ρ : Operand → Option Value} {A A' : AHeap} {v : Value} (h : aop E o ρ A = some (v, A')) : A.next ≤ A'.next := by
  unfold aop at h
  split at h
  all_goals first
    | exact aAlloc_next h
    | exact aMakeSlice_next h
    | (split at h
       all_goals first
        | (cases h; done)
        | exact aBuildSlice_next h
        | exact aMakeSlice_next h
        | (cases h; exact Nat.le_refl _)
        | (cases h; simp [aBox]; done)
        | (split at h
           all_goals first
            | (cases h; done)
            | exact aBuiltin_next h
            | (cases h; exact Nat.le_refl _)
            | (rename_i hq; cases h; exact aStore_next hq)
            | (rename_i hq; cases h; exact aMapUpdate_next hq)))
    | (cases h; simp; done)
    | (cases h; done)

theorem drop_cons {ops : Array Oper} {i : Nat} {o : Oper} {l : List Oper} (h : ops.toList.drop i = o :: l) : ops[i]? = some o ∧ ops.toList.drop (i + 1) = l := by
  constructor
  · have := congrArg (fun l => l[0]?) h
    simpa using this
  · have := congrArg List.tail h
    simpa using this

theorem start_next {A A₁ : AHeap} {s : St} {ps : Array Tmp} {as bd : Code} {D : Option Nat} {L : Nat} {ds : List Deferred} (h : A.start s ps as bd D = (A₁, L, ds)) : A.next ≤ A₁.next := by
  cases D <;> (simp only [AHeap.start, Prod.mk.injEq] at h; obtain ⟨rfl, _, _⟩ := h; simp only [AHeap.next_push]; omega)

/-- A loop over a function, up to where the function has returned. -/
theorem range_sim {ι : Inj} {s : St} {ro : Option Nat} {a : Act} {A A₁ A₂ : AHeap} {w : World} {f : Operand} {params : Array Tmp} {assign body : Code} {fv v : Value} {D : Option Nat} {L : Nat} {ds : List Deferred} {r : ALoop}
    (hf : s.ev f = some fv) (hg : ∃ g first cap, fv = .func (.func g) first cap) (hD : loopsAround A s.rd = some D) (hs0 : A.start s params assign body D = (A₁, L, ds))
    (g : ∀ ι w fv' args', VR ι fv fv' → VRl ι [.func (.yield L) #[] #[]] args' → Real ι A₁ w → Fresh ι A₁ A₂ →
      ∃ ι' w' v', AppTo P fv' args'.toArray w v' w' ∧ VR ι' v v' ∧ Real ι' A₂ w' ∧ Ext ι A₁ w ι' A₂ w')
    (n1 : A₁.next ≤ A₂.next) (hs : StRel ι s ro a) (hr : Real ι A w) (hF : Fresh ι A A₂) (hr0 : A₂.obj L = some (.loop r)) :
    ∃ ι' w' l mark, ι' L = some l ∧ (∀ (b : Frame) (k : List Item) (cs : List Frame), b.kind ≠ .early → b.fn = s.fn → b.roundOf = ro →
      Steps P (lone (b.atR a (.code (.rangeFunc f params assign body) :: k)) cs w) (lone (b.atR { a with defers := mark ++ a.defers } (.endRangeFunc l.blk :: k)) cs w')) ∧
      StRel ι' { s with ds } ro { a with defers := mark ++ a.defers } ∧ Real ι' A₂ w' ∧ Ext ι A w ι' A₂ w' ∧ ∃ r', w'.heap[l.blk]? = some (.loop r') ∧ LoopRel ι' r r' := by
  obtain ⟨ι1, w1, l, mark, he, hL, hds, R1, X1⟩ := start_sim hs hD hs0 hr (hF.left n1)
  have hfv := (hs.mono X1.mono).ev _ _ hf
  obtain ⟨ι2, w2, v', happ, hv, R2, X2⟩ := g ι1 w1 (a.eval f) [.func (.yield l.blk) #[] #[]] hfv (.cons (.yield hL) .nil) R1 (hF.right X1)
  obtain ⟨l2, r', hl2, h1, h2⟩ := R2.loop hr0
  have eL : l2 = l := by have := X2.mono _ _ hL; rw [hl2] at this; cases this; rfl
  subst eL
  refine ⟨ι2, w2, l2, mark, hl2, fun b k cs hk hfn hro => ?_, ?_, R2, X1.trans X2, r', h1, h2⟩
  · rw [← hfn, ← hro] at he
    rcases happ with ⟨gf, first, cap, hfe, hcall⟩ | ⟨y, hfe, fn, tm, as, bd, hy, hs⟩
    · have hres : (resolve a.eval (rangeCall f l2.blk) 0).run P w1 = .ok { target := .fn (.func gf) cap, args := first ++ #[.func (.yield l2.blk) #[] #[]] } w1 := by
        have hm : (#[Operand.const (Value.func (Fn.yield l2.blk) #[] #[])] : Array Operand).map a.eval = #[.func (.yield l2.blk) #[] #[]] := by simp [Act.eval]
        simp only [resolve, rangeCall, hfe, Deferred.ofValue, hm]; rfl
      have hinv : (invoke (.fn (.func gf) cap) (first ++ #[.func (.yield l2.blk) #[] #[]])).run P w1 = (callFunc gf (first ++ #[.func (.yield l2.blk) #[] #[]] ++ cap)).run P w1 := rfl
      rcases hcall with hval | ⟨hent, hst⟩
      · exact .one (stepR_rangeValue he hres (hinv.trans hval))
      · obtain ⟨fr, q, q1, q2, q3, q4, fnn, q5, q6⟩ := hst .normal (b.atR { a with defers := mark ++ a.defers } (.inRangeFunc l2.blk :: k) :: cs) (by simp)
        refine .head (stepR_rangeFunc he hres (hinv.trans hent)) (q.trans (.one ?_))
        rw [← finish_atR_inRangeFunc l2.blk v']
        exact step_back q1 q2 q3 (q4 ▸ q5) q6
    · obtain ⟨g', first, cap, rfl⟩ := hg
      rw [hfe] at hfv
      cases hfv
  · exact ⟨(hs.mono (Inj.le_trans X1.mono X2.mono)).rd, hs.tmps.mono (Inj.le_trans X1.mono X2.mono), hds.mono X2.mono⟩

end Go.Abs

/- The order that the model draws for a region: every operation once, each behind those that it is after. -/
namespace Go.Abs
open Go

/-- An order of operations. -/
structure Sched (ops : Array Oper) (L : List Nat) : Prop where
  all : ∀ i, i < ops.size → i ∈ L
  good : ∀ pre i post, L = pre ++ i :: post → i < ops.size ∧ i ∉ pre ∧ ∀ e ∈ (ops.getD i default).after, Region.binds .any e = true → e.on ∈ pre

def ready (m : Region.Mode) (ops : Array Oper) (listed : Array Bool) (i : Nat) : Bool :=
  !listed.getD i true && ((ops[i]?).map (·.after.all fun e => !Region.binds m e || listed.getD e.on false)).getD false

def leftOver (listed : Array Bool) (n : Nat) : Nat := ((List.range n).filter fun i => !listed.getD i true).length

theorem leftOver_set (listed : Array Bool) (i : Nat) : ∀ n, n ≤ listed.size → i < listed.size → listed.getD i true = false →
    leftOver (listed.setIfInBounds i true) n + (if i < n then 1 else 0) = leftOver listed n
  | 0, _, _, _ => by simp [leftOver]
  | n + 1, hn, hi, hf => by
    have ih := leftOver_set listed i n (by omega) hi hf
    unfold leftOver at ih ⊢
    rw [List.range_succ, List.filter_append, List.filter_append, List.length_append, List.length_append]
    by_cases e : n = i
    · subst e
      rw [if_neg (by omega)] at ih
      rw [if_pos (by omega)]
      have h1 : (listed.setIfInBounds n true).getD n true = true := by simp [Array.getD, hi]
      simp only [List.filter_cons, h1, hf, Bool.not_true, Bool.not_false, List.filter_nil, if_true, Bool.false_eq_true, if_false, List.length_nil, List.length_cons]
      omega
    · have h1 : (listed.setIfInBounds i true).getD n true = listed.getD n true := by
        simp only [Array.getD, Array.size_setIfInBounds]
        split
        · simp only [Array.getInternal_eq_getElem]
          rw [Array.getElem_setIfInBounds (by omega)]
          rw [if_neg (fun h => e h.symm)]
        · rfl
      have h2 : (if i < n + 1 then 1 else 0) = (if i < n then 1 else 0) := by
        by_cases h : i < n
        · rw [if_pos h, if_pos (by omega)]
        · rw [if_neg h, if_neg (by omega)]
      rw [h2]
      simp only [List.filter_cons, h1, List.filter_nil]
      omega

theorem leftOver_pos {listed : Array Bool} {n : Nat} (h : 0 < leftOver listed n) : ∃ i, i < n ∧ listed.getD i true = false := by
  unfold leftOver at h
  obtain ⟨i, hi⟩ := List.exists_mem_of_length_pos h
  simp only [List.mem_filter, List.mem_range, Bool.not_eq_true'] at hi
  exact ⟨i, hi.1, hi.2⟩

theorem least_false {listed : Array Bool} (r : Nat → Nat) (n : Nat) : ∀ b, (∃ i, i < n ∧ listed.getD i true = false ∧ r i < b) → ∃ i, i < n ∧ listed.getD i true = false ∧ ∀ j, j < n → r j < r i → listed.getD j true = true
  | 0, h => by obtain ⟨i, _, _, h⟩ := h; omega
  | b + 1, h => by
    by_cases h' : ∃ i, i < n ∧ listed.getD i true = false ∧ r i < b
    · exact least_false r n b h'
    · obtain ⟨i, a, c, hb⟩ := h
      refine ⟨i, a, c, fun j hj hlt => ?_⟩
      cases hf : listed.getD j true with
      | true => rfl
      | false => exact absurd ⟨j, hj, hf, by omega⟩ h'

theorem go_spec (m : Region.Mode) (ops : Array Oper) {r : Nat → Nat} (hlow : ∀ i, i < ops.size → ∀ e ∈ (ops.getD i default).after, Region.binds m e = true → e.on < ops.size ∧ r e.on < r i) : ∀ (fuel t : Nat) (listed : Array Bool) (acc : List Nat), listed.size = ops.size → leftOver listed ops.size = fuel →
    (∀ i, i < ops.size → (listed.getD i true = true ↔ i ∈ acc)) →
    (∀ pre i post, acc.reverse = pre ++ i :: post → i < ops.size ∧ i ∉ pre ∧ ∀ e ∈ (ops.getD i default).after, Region.binds m e = true → e.on ∈ pre) →
    (∀ i, i < ops.size → i ∈ Region.linearise.go m ops fuel t listed acc) ∧
    (∀ pre i post, Region.linearise.go m ops fuel t listed acc = pre ++ i :: post → i < ops.size ∧ i ∉ pre ∧ ∀ e ∈ (ops.getD i default).after, Region.binds m e = true → e.on ∈ pre)
  | 0, t, listed, acc, hs, hl, hacc, hg => by
    simp only [Region.linearise.go]
    refine ⟨fun i hi => ?_, hg⟩
    rw [List.mem_reverse, ← hacc i hi]
    cases hf : listed.getD i true with
    | true => rfl
    | false =>
      exfalso
      unfold leftOver at hl
      have := List.length_eq_zero_iff.1 hl
      have hm : i ∈ (List.range ops.size).filter fun i => !listed.getD i true := by simp [hi]; simpa using hf
      rw [this] at hm
      cases hm
  | fuel + 1, t, listed, acc, hs, hl, hacc, hg => by
    obtain ⟨i1, hi1, hf1⟩ := leftOver_pos (listed := listed) (n := ops.size) (by rw [hl]; omega)
    obtain ⟨i0, hi0, hf0, hmin⟩ := least_false r ops.size (r i1 + 1) ⟨i1, hi1, hf1, by omega⟩
    have hready : ready m ops listed i0 = true := by
      unfold ready
      rw [hf0, Array.getElem?_eq_getElem hi0]
      simp only [Bool.not_false, Option.map_some, Option.getD_some, Bool.true_and, Array.all_eq_true, Bool.or_eq_true, Bool.not_eq_true']
      intro k hk
      cases hb : Region.binds m ((ops[i0]).after[k]) with
      | false => exact .inl rfl
      | true =>
      right
      have he := hlow i0 hi0 ((ops[i0]).after[k]) (by simp [Array.getD, hi0]) hb
      have h3 := hmin _ he.1 he.2
      have h4 : ((ops[i0]).after[k]).on < listed.size := by omega
      simpa [Array.getD, h4] using h3
    have hrs : i0 ∈ (List.range ops.size).filter (ready m ops listed) := by simp [hi0, hready]
    obtain ⟨rs, hrse⟩ : ∃ rs, rs = (List.range ops.size).filter (ready m ops listed) := ⟨_, rfl⟩
    have hpos : 0 < rs.length := by rw [hrse]; exact List.length_pos_of_mem hrs
    have hlt : t % rs.length < rs.length := Nat.mod_lt _ hpos
    obtain ⟨i, hi⟩ : ∃ i, i = rs[t % rs.length] := ⟨_, rfl⟩
    have hmem : i ∈ rs := by rw [hi]; simp
    rw [hrse] at hmem
    simp only [List.mem_filter, List.mem_range] at hmem
    obtain ⟨hin, hir⟩ := hmem
    have hir' := hir
    unfold ready at hir
    rw [Array.getElem?_eq_getElem hin] at hir
    simp only [Option.map_some, Option.getD_some, Bool.and_eq_true, Bool.not_eq_true', Array.all_eq_true, Bool.or_eq_true] at hir
    obtain ⟨hf, hdeps⟩ := hir
    have hgo : Region.linearise.go m ops (fuel + 1) t listed acc = Region.linearise.go m ops fuel (t / rs.length) (listed.setIfInBounds i true) (i :: acc) := by
      conv => lhs; unfold Region.linearise.go
      have : (List.range ops.size).filter (fun i => !listed.getD i true && ((ops[i]?).map (·.after.all fun e => !Region.binds m e || listed.getD e.on false)).getD false) = rs := by rw [hrse]; rfl
      simp only [this]
      rw [List.getElem?_eq_getElem hlt, ← hi]
    rw [hgo]
    have hni : i ∉ acc := fun h => by rw [← hacc i hin, hf] at h; cases h
    refine go_spec m ops hlow fuel _ _ (i :: acc) (by simpa using hs) ?_ ?_ ?_
    · have := leftOver_set listed i ops.size (by omega) (by omega) hf
      rw [if_pos hin] at this
      omega
    · intro j hj
      by_cases e : j = i
      · subst e; simp [Array.getD, hs, hj]
      · have h1 : (listed.setIfInBounds i true).getD j true = listed.getD j true := by
          simp only [Array.getD, Array.size_setIfInBounds]
          split
          · simp only [Array.getInternal_eq_getElem]
            rw [Array.getElem_setIfInBounds (by omega)]
            rw [if_neg (fun h => e h.symm)]
          · rfl
        rw [h1, hacc j hj]
        simp [e]
    · have key : ∀ e ∈ (ops.getD i default).after, Region.binds m e = true → e.on ∈ acc.reverse := by
        intro e he hb
        simp only [Array.getD, hin, dite_true] at he
        simp only [Array.getInternal_eq_getElem] at he
        obtain ⟨k, hk, rfl⟩ := Array.getElem_of_mem he
        have h3 := hdeps k hk
        rcases h3 with h3 | h3
        · rw [hb] at h3; cases h3
        · have hlo := hlow i hin ((ops[i]).after[k]) (by simp [Array.getD, hin]) hb
          rw [List.mem_reverse, ← hacc _ (by omega)]
          have h4 : ((ops[i]).after[k]).on < listed.size := by omega
          simpa [Array.getD, h4] using h3
      have hni' : i ∉ acc.reverse := by simpa using hni
      intro pre j post h
      rw [List.reverse_cons] at h
      have last : pre = acc.reverse → j = i → j < ops.size ∧ j ∉ pre ∧ ∀ e ∈ (ops.getD j default).after, Region.binds m e = true → e.on ∈ pre := fun e1 e2 => by
        rw [e1, e2]; exact ⟨hin, hni', key⟩
      rcases List.append_eq_append_iff.1 h with ⟨as, h1, h2⟩ | ⟨bs, h1, h2⟩
      · cases as with
        | nil =>
          simp at h1 h2
          exact last h1 h2.1.symm
        | cons a as => simp at h2
      · cases bs with
        | nil =>
          simp at h1 h2
          exact last h1.symm h2.1
        | cons b bs =>
          simp at h2
          obtain ⟨rfl, h2⟩ := h2
          exact hg pre j bs h1

theorem linearise_sched (m : Region.Mode) (ops : Array Oper) (hlow : lowEdges ops) (t : Nat) : Sched ops (Region.linearise m ops t) := by
  have h0 : ∀ i, i < ops.size → (Array.replicate ops.size false).getD i true = false := fun i hi => by simp [Array.getD, hi]
  have hl : leftOver (Array.replicate ops.size false) ops.size = ops.size := by
    unfold leftOver
    rw [List.filter_eq_self.2]
    · simp
    · intro i hi; simp at hi; rw [h0 i hi]; rfl
  obtain ⟨r, hlow⟩ := hlow m
  obtain ⟨h1, h2⟩ := go_spec m ops hlow ops.size t (Array.replicate ops.size false) [] (by simp) hl (fun i hi => by rw [h0 i hi]; simp) (fun pre i post e => by simp at e)
  refine ⟨h1, fun pre i post e => ?_⟩
  obtain ⟨a, b, c⟩ := h2 pre i post e
  refine ⟨a, b, fun e he hb => c e he ?_⟩
  unfold Region.binds at hb ⊢
  split at hb <;> first | rfl | cases hb | simp_all

theorem schedule_sched (mixed : Bool) (ops : Array Oper) (hlow : lowEdges ops) (t : Nat) : Sched ops (Region.schedule mixed ops t) := by
  unfold Region.schedule
  split
  · exact linearise_sched _ ops hlow t
  · exact linearise_sched _ ops hlow _

end Go.Abs

/- A region whose order is drawn. -/
namespace Go.Abs
open Go
variable {P : Program}

/-- One operation, in whatever frame stands there. -/
def OpSem (P : Program) (ops : Array Oper) (i : Nat) (o : Oper) (ρ : Operand → Option Value) (A₀ : AHeap) (v : Value) (A₁ : AHeap) : Prop :=
  ∀ ι w a, (∀ x u, ρ x = some u → VR ι u (a.eval x)) → Real ι A₀ w → Fresh ι A₀ A₁ →
    ∃ ι' w' v', (∀ (b : Frame) (k : List Item) (cs : List Frame) (rest : List Nat), b.kind ≠ .early → Region.wanted o (yielded ops a.tmps) = true →
      Steps P (lone (b.atR a (.inRegion ops (i :: rest) :: k)) cs w) (lone (b.atR (a.put o.dst v') (.inRegion ops rest :: k)) cs w')) ∧ VR ι' v v' ∧ Real ι' A₁ w' ∧ Ext ι A₀ w ι' A₁ w'

theorem opSem_aop {E : Env P} {ops : Array Oper} {i : Nat} {o : Oper} {ρ : Operand → Option Value} {A₀ A₁ : AHeap} {v : Value} (ho : ops[i]? = some o) (h : aop E o ρ A₀ = some (v, A₁)) : OpSem P ops i o ρ A₀ v A₁ := by
  intro ι w a hρ hr hF
  obtain ⟨ι', w', v', x, e1, e2, hv, R', X'⟩ := aop_sim h hρ hr hF
  have hsem : ∀ ro, o.semAt ro a.eval = execOp a.eval o := fun ro => Oper.semAt_eq _ _ _ (fun c e => by unfold aop at h; rw [e] at h; cases h)
  refine ⟨ι', w', v', fun b k cs rest _ hw => ?_, hv, R', X'⟩
  rcases e2 with rfl | ⟨rfl, rfl⟩
  · exact .one (step_value ho hw (by rw [hsem]; exact e1))
  · exact .one (step_skip' ho hw (by rw [hsem]; exact e1))

theorem opSem_call {ops : Array Oper} {i : Nat} {o : Oper} {ρ : Operand → Option Value} {A₀ A₁ : AHeap} {v fv : Value} {args : List Value} {c : Call} {f : Operand} (ho : ops[i]? = some o) (hop : o.op = .call c) (hc : c.callee = .value f)
    (hf : ρ f = some fv) (ha : evList ρ c.args.toList = some args) (h : Sem' P (.app fv args A₀ v A₁)) : OpSem P ops i o ρ A₀ v A₁ := by
  intro ι w a hρ hr hF
  obtain ⟨ι', w', v', happ, hv, R', X'⟩ := h.2 ι w (a.eval f) (c.args.toList.map a.eval) (hρ _ _ hf) (evList_sim hρ ha) hr hF
  have hargs : (c.args.toList.map a.eval).toArray = c.args.map a.eval := by rw [← List.map_toArray, Array.toArray_toList]
  rw [hargs] at happ
  exact ⟨ι', w', v', fun b k cs rest _ hw => app_step ho hw hop hc happ, hv, R', X'⟩

theorem sched_pre {ops : Array Oper} {L : List Nat} (hL : Sched ops L) {k i : Nat} (h : Pre ops k i) : ∀ pre post, L = pre ++ i :: post → k ∈ pre := by
  induction h with
  | edge h =>
    intro pre post e
    unfold edgeOn at h
    rw [Array.any_eq_true] at h
    obtain ⟨n, hn, h⟩ := h
    simp only [Bool.and_eq_true, beq_iff_eq] at h
    have := (hL.good pre _ post e).2.2 _ (Array.getElem_mem hn) h.1
    rwa [h.2] at this
  | @trans k j i _ _ ih ih' =>
    intro pre post e
    have hj := ih' pre post e
    obtain ⟨p1, p2, rfl⟩ := List.append_of_mem hj
    have := ih p1 (p2 ++ i :: post) (by rw [e]; simp)
    simp [this]

theorem getD_set (a : Array Value) (d t : Nat) (v : Value) : (a.setIfInBounds d v).getD t undef = if t = d ∧ d < a.size then v else a.getD t undef := by
  simp only [Array.getD, Array.size_setIfInBounds, Array.getInternal_eq_getElem]
  by_cases ht : t < a.size
  · simp only [ht, dite_true]
    rw [Array.getElem_setIfInBounds ht]
    by_cases e : d = t
    · subst e; simp [ht]
    · rw [if_neg e, if_neg (fun h => e h.1.symm)]
  · simp only [ht, dite_false]
    rw [if_neg]
    intro h; exact ht (by rw [h.1]; exact h.2)

theorem ExtF.transW {ι₁ ι₂ ι₃ : Inj} {f₁ f₂ f₃ : Nat → Option AObj} {n₁ n₂ n₃ k : Nat} {w₁ w₂ w₃ : World} (h : ExtF ι₁ f₁ n₁ w₁ ι₂ f₂ n₂ w₂) (h' : ExtF ι₂ f₂ k w₂ ι₃ f₃ n₃ w₃) (hk : n₁ ≤ k) (hn : n₂ ≤ n₃) :
    ExtF ι₁ f₁ n₁ w₁ ι₃ f₃ n₃ w₃ where
  mono := Inj.le_trans h.mono h'.mono
  next := Nat.le_trans h.next hn
  size := Nat.le_trans h.size h'.size
  dom := fun i l e e' => by
    cases e2 : ι₂ i with
    | none => exact ⟨Nat.le_trans hk (h'.dom i l e2 e').1, (h'.dom i l e2 e').2⟩
    | some l2 => exact ⟨(h.dom i l2 e e2).1, Nat.lt_of_lt_of_le (h.dom i l2 e e2).2 hn⟩
  keep := fun b hb hn => by
    rw [h'.keep b (Nat.lt_of_lt_of_le hb h.size) (fun i o l ho hw hl e => ?_), h.keep b hb hn]
    subst e
    obtain ⟨j, o', l', hj, hw', hl', e⟩ := h.own i o l ho hw hl hb
    exact hn j o' l' hj hw' hl' e
  own := fun i o l ho hw hl hb => by
    obtain ⟨j, o', l', hj, hw', hl', e⟩ := h'.own i o l ho hw hl (Nat.lt_of_lt_of_le hb h.size)
    obtain ⟨k, o'', l'', hk, hw'', hl'', e'⟩ := h.own j o' l' hj hw' hl' (e ▸ hb)
    exact ⟨k, o'', l'', hk, hw'', hl'', e'.trans e⟩
  os := ⟨h'.os.1.trans h.os.1, h'.os.2.1.trans h.os.2.1, h'.os.2.2.trans h.os.2.2⟩
  ro := fun i es n z c e => h.ro i es n z c (h'.ro i es n z c e)
  fz := fun a => (h'.fz a).trans (h.fz a)

theorem ExtF.less {ι ι' : Inj} {f f' g' : Nat → Option AObj} {n n' : Nat} {w w' : World} (h : ExtF ι f n w ι' f' n' w') (hg : ∀ i o, g' i = some o → f' i = some o) : ExtF ι f n w ι' g' n' w' :=
  ⟨h.mono, h.next, h.size, h.dom, h.keep, fun i o l e => h.own i o l (hg i o e), h.os, fun i es n z c e => h.ro i es n z c (hg i _ e), h.fz⟩

section
variable {E : Env P} {ops : Array Oper} {s : St} {A : AHeap} {d : Draw}

def Draw.iv (d : Draw) (k j : Nat) : Prop := (d.Hs k).next ≤ j ∧ j < (d.He k).next

open Classical in
/-- The objects that lie there when some of the first operations have run. -/
noncomputable def Draw.part (d : Draw) (A : AHeap) (pre : List Nat) (j : Nat) : Option AObj :=
  if (A.obj j).isSome = true ∨ ∃ k, k ∈ pre ∧ k < d.m ∧ d.iv k j then (d.G 0).obj j else none

theorem part_some {pre : List Nat} {j : Nat} {o : AObj} : d.part A pre j = some o ↔ ((A.obj j).isSome = true ∨ ∃ k, k ∈ pre ∧ k < d.m ∧ d.iv k j) ∧ (d.G 0).obj j = some o := by
  unfold Draw.part
  split
  · rename_i h; exact ⟨fun e => ⟨h, e⟩, fun e => e.2⟩
  · rename_i h; exact ⟨(fun e => by cases e), fun e => absurd e.1 h⟩

/-- What holds on the way. -/
structure DInv (d : Draw) (ops : Array Oper) (s : St) (A : AHeap) (ro : Option Nat) (ι₀ : Inj) (w₀ : World) (pre : List Nat) (ι : Inj) (w : World) (a : Act) : Prop where
  size : a.tmps.size = s.n
  free : ∀ t, (∀ i, i < ops.size → (ops.getD i default).dst ≠ some t) → VR ι ((s.tmps.get t).getD undef) (a.tmps.getD t undef)
  done : ∀ i, i ∈ pre → ∀ t, (ops.getD i default).dst = some t → VR ι (d.val i) (a.tmps.getD t undef)
  todo : ∀ i, i < ops.size → i ∉ pre → ∀ t, (ops.getD i default).dst = some t → VR ι ((s.tmps.get t).getD undef) (a.tmps.getD t undef)
  ds : DsR ι s.ds a.defers
  rd : match s.rd with
    | none => ro = none
    | some i => ∃ l, ι i = some l ∧ ro = some l.blk
  heap : ∃ q, (∀ k, k ∈ pre → d.m ≤ k → k < d.m + q) ∧ (∀ k, d.m ≤ k → k < d.m + q → k ∈ pre) ∧ d.m + q ≤ ops.size ∧
    ((q = 0 ∧ RealF ι (d.part A pre) w ∧ ExtF ι₀ A.obj A.next w₀ ι (d.part A pre) (d.G 0).next w ∧ ∀ j, A.next ≤ j → j < (d.G 0).next → (∀ k, k ∈ pre → k < d.m → ¬ d.iv k j) → ι j = none) ∨
     (0 < q ∧ (∀ k, k < d.m → d.st k = false → k ∈ pre) ∧ Real ι (d.G q) w ∧ Ext ι₀ A w₀ ι (d.G q) w))

variable {ro : Option Nat} {ι₀ ι ι' : Inj} {w₀ w w' : World} {pre post L : List Nat} {i : Nat} {a : Act}

/-- All but the heap, when one more has run. -/
theorem DInv.put (hd : Draw.Ok ops s A E d) (h : DInv d ops s A ro ι₀ w₀ pre ι w a) (hi : i < ops.size) (hni : i ∉ pre) {v' : Value} (hι : ι.le ι') (hv : VR ι' (d.val i) v')
    (hh : ∃ q, (∀ k, k ∈ pre ++ [i] → d.m ≤ k → k < d.m + q) ∧ (∀ k, d.m ≤ k → k < d.m + q → k ∈ pre ++ [i]) ∧ d.m + q ≤ ops.size ∧
    ((q = 0 ∧ RealF ι' (d.part A (pre ++ [i])) w' ∧ ExtF ι₀ A.obj A.next w₀ ι' (d.part A (pre ++ [i])) (d.G 0).next w' ∧ ∀ j, A.next ≤ j → j < (d.G 0).next → (∀ k, k ∈ pre ++ [i] → k < d.m → ¬ d.iv k j) → ι' j = none) ∨
     (0 < q ∧ (∀ k, k < d.m → d.st k = false → k ∈ pre ++ [i]) ∧ Real ι' (d.G q) w' ∧ Ext ι₀ A w₀ ι' (d.G q) w'))) :
    DInv d ops s A ro ι₀ w₀ (pre ++ [i]) ι' w' (a.put (ops.getD i default).dst v') := by
  have hsize : (a.put (ops.getD i default).dst v').tmps.size = s.n := by
    unfold Act.put; split
    · simpa using h.size
    · exact h.size
  have other : ∀ t, (ops.getD i default).dst ≠ some t → (a.put (ops.getD i default).dst v').tmps.getD t undef = a.tmps.getD t undef := by
    intro t ht
    unfold Act.put
    split
    · rename_i t' e
      simp only
      rw [getD_set, if_neg]
      intro hh; exact ht (by rw [e, hh.1])
    · rfl
  have same : ∀ t, (ops.getD i default).dst = some t → (a.put (ops.getD i default).dst v').tmps.getD t undef = v' := by
    intro t ht
    rw [ht]
    simp only [Act.put]
    rw [getD_set, if_pos ⟨rfl, by rw [h.size]; exact (hd.dst i hi t ht).1⟩]
  refine ⟨hsize, ?_, ?_, ?_, ?_, ?_, hh⟩
  · intro t ht
    rw [other t (ht i hi)]; exact (h.free t ht).mono hι
  · intro k hk t ht
    by_cases hki : k = i
    · subst hki; rw [same t ht]; exact hv
    · have hk' : k ∈ pre := by simp at hk; rcases hk with hk | hk; exact hk; exact absurd hk hki
      by_cases hki' : (ops.getD i default).dst = some t
      · by_cases hkn : k < ops.size
        · exact absurd (hd.dst1 k i hkn hi t ht hki') hki
        · have : ops.getD k default = default := by simp [Array.getD, hkn]
          rw [this] at ht; cases ht
      · rw [other t hki']; exact (h.done k hk' t ht).mono hι
  · intro k hk hnk t ht
    simp at hnk
    have hki' : (ops.getD i default).dst ≠ some t := fun e => hnk.2 (hd.dst1 k i hk hi t ht e)
    rw [other t hki']; exact (h.todo k hk hnk.1 t ht).mono hι
  · have : (a.put (ops.getD i default).dst v').defers = a.defers := by unfold Act.put; split <;> rfl
    rw [this]; exact h.ds.mono hι
  · have := h.rd
    cases e : s.rd with
    | none => rw [e] at this; exact this
    | some j => rw [e] at this; obtain ⟨l, h1, h2⟩ := this; exact ⟨l, hι _ _ h1, h2⟩

/-- What an operation may look at stands there. -/
theorem DInv.rho (hd : Draw.Ok ops s A E d) (hL : Sched ops L) (h : DInv d ops s A ro ι₀ w₀ pre ι w a) (e : L = pre ++ i :: post) : ∀ x u, d.rho i x = some u → VR ι u (a.eval x) := by
  intro x u hx
  obtain ⟨hi, hni, _⟩ := hL.good pre i post e
  have hr := hd.rho i hi x u hx
  cases x with
  | tmp t =>
    simp only at hr
    show VR ι u (a.tmps.getD t undef)
    by_cases hw : ∃ k, k < ops.size ∧ (ops.getD k default).dst = some t
    · obtain ⟨k, hk, hkt⟩ := hw
      rcases hr with ⟨h1, rfl⟩ | ⟨h1, rfl⟩
      · have hkp := sched_pre hL (h1 k hk hkt) pre post e
        have := h.done k hkp t hkt
        rw [(hd.dst k hk t hkt).2]; exact this
      · refine h.todo k hk (fun hkp => ?_) t hkt
        rcases h1 k hk hkt with hp | rfl
        · obtain ⟨p1, p2, rfl⟩ := List.append_of_mem hkp
          have := sched_pre hL hp p1 (p2 ++ i :: post) (by rw [e]; simp)
          exact hni (by simp [this])
        · exact hni hkp
    · have hfree : ∀ k, k < ops.size → (ops.getD k default).dst ≠ some t := fun k hk hkt => hw ⟨k, hk, hkt⟩
      have := h.free t hfree
      rcases hr with ⟨_, rfl⟩ | ⟨_, rfl⟩
      · rw [hd.rest t hfree]; exact this
      · exact this
  | const c =>
    simp only [St.ev] at hr
    split at hr
    · rename_i hf; cases hr; exact flat_refl hf
    · cases hr
  | global g => simp [St.ev] at hr
  | func f =>
    simp only [St.ev, Option.some.injEq] at hr
    subst hr
    exact .func rfl (fun i h => by simp at h) rfl (fun i h => by simp at h)

theorem DInv.want (hd : Draw.Ok ops s A E d) (hL : Sched ops L) (h : DInv d ops s A ro ι₀ w₀ pre ι w a) (e : L = pre ++ i :: post) :
    Region.wanted (ops.getD i default) (yielded ops a.tmps) = d.W i := by
  obtain ⟨hi, hni, _⟩ := hL.good pre i post e
  have hw := hd.want i hi
  unfold Region.wanted
  cases hg : (ops.getD i default).guard with
  | none => rw [hg] at hw; simp only at hw ⊢; exact hw.symm
  | some g =>
    obtain ⟨j, b⟩ := g
    rw [hg] at hw
    obtain ⟨t, ht, hj, hp, hW⟩ := hw
    simp only
    have hjp := sched_pre hL hp pre post e
    have hv := h.done j hjp t ht
    have htF := hd.dst j hj t ht
    have hoj : ops[j]? = some (ops.getD j default) := by simp [Array.getD, hj]
    have hts : t < a.tmps.size := by rw [h.size]; exact htF.1
    rw [hW, htF.2]
    simp only [yielded, hoj, Option.bind_some, ht]
    simp only [Array.getD, hts, dite_true, Array.getInternal_eq_getElem] at hv
    rw [Array.getElem?_eq_getElem hts]
    generalize a.tmps[t] = y at hv
    congr 1
    generalize d.val j = z at hv
    cases hv <;> simp [boolOf]

end
end Go.Abs

/- A region whose order is drawn: one step, all of them. -/
namespace Go.Abs
open Go
variable {P : Program}
section
variable {E : Env P} {ops : Array Oper} {s : St} {A : AHeap} {d : Draw}
variable {ro : Option Nat} {ι₀ ι ι' : Inj} {w₀ w w' : World} {pre post L : List Nat} {i : Nat} {a : Act}

theorem Draw.Ok.toG (hd : Draw.Ok ops s A E d) (hall : ∀ k, k < d.m → d.st k = false → k ∈ pre) (hr : RealF ι (d.part A pre) w) (hx : ExtF ι₀ A.obj A.next w₀ ι (d.part A pre) (d.G 0).next w) :
    Real ι (d.G 0) w ∧ Ext ι₀ A w₀ ι (d.G 0) w := by
  have key : ∀ j o, (d.G 0).obj j = some o → d.part A pre j = some o := by
    intro j o h
    rw [part_some]
    refine ⟨?_, h⟩
    rcases hd.whole j o h with h1 | ⟨k, hk, h1, h2, _⟩
    · exact .inl (by rw [h1]; rfl)
    · refine .inr ⟨k, ?_, hk, h1, h2⟩
      cases hst : d.st k with
      | false => exact hall k hk hst
      | true =>
        have := (hd.steady k hk hst).2.1
        rw [this] at h2; omega
  exact ⟨hr.less key, hx.less key⟩

theorem Draw.Ok.late (hd : Draw.Ok ops s A E d) (hL : Sched ops L) (e : L = pre ++ i :: post) {q : Nat} (h1 : ∀ k, k ∈ pre → d.m ≤ k → k < d.m + q) (h2 : ∀ k, d.m ≤ k → k < d.m + q → k ∈ pre) (hi : i < ops.size) (hni : i ∉ pre)
    (hm : d.m ≤ i) : i = d.m + q := by
  have hge : d.m + q ≤ i := by
    rcases Nat.lt_or_ge i (d.m + q) with h | h
    · exact absurd (h2 i hm h) hni
    · exact h
  have hback : ∀ n k, k + n = i → d.m ≤ k → 0 < n → k ∈ pre := by
    intro n
    induction n with
    | zero => intro k _ _ h; omega
    | succ n ih =>
      intro k hk hmk _
      have hp := hd.chain k hmk (by omega)
      by_cases hn : n = 0
      · subst hn
        have : k + 1 = i := by omega
        rw [this] at hp
        exact sched_pre hL hp pre post e
      · have hk1 := ih (k + 1) (by omega) (by omega) (by omega)
        obtain ⟨p1, p2, rfl⟩ := List.append_of_mem hk1
        have := sched_pre hL hp p1 (p2 ++ i :: post) (by rw [e]; simp)
        simp [this]
  rcases Nat.lt_or_ge (d.m + q) i with h | h
  · have := hback (i - (d.m + q)) (d.m + q) (by omega) (by omega) (by omega)
    have := h1 _ this (by omega)
    omega
  · omega

theorem Draw.Ok.Gnext (hd : Draw.Ok ops s A E d) (hn : ∀ i, i < ops.size → (d.Hs i).next ≤ (d.He i).next) : ∀ n q, d.m + (q + n) ≤ ops.size → (d.G q).next ≤ (d.G (q + n)).next
  | 0, q, _ => Nat.le_refl _
  | n + 1, q, h => by
    have h1 := Draw.Ok.Gnext hd hn n q (by omega)
    have h2 := hd.lat (q + n) (by omega)
    have h3 := hn (d.m + (q + n)) (by omega)
    rw [h2.1, h2.2] at h3
    exact Nat.le_trans h1 h3

/-- One operation more. -/
theorem DInv.more (hd : Draw.Ok ops s A E d) (hn : ∀ i, i < ops.size → (d.Hs i).next ≤ (d.He i).next) (hL : Sched ops L)
    (hsem : ∀ i, i < ops.size → d.W i = true → OpSem P ops i (ops.getD i default) (d.rho i) (d.Hs i) (d.val i) (d.He i))
    (hF : ∀ j, A.next ≤ j → j < (d.G (ops.size - d.m)).next → ι₀ j = none)
    (h : DInv d ops s A ro ι₀ w₀ pre ι w a) (e : L = pre ++ i :: post) :
    ∃ ι' w' v', (∀ (b : Frame) (k : List Item) (cs : List Frame), b.kind ≠ .early →
      Steps P (lone (b.atR a (.inRegion ops (i :: post) :: k)) cs w) (lone (b.atR (a.put (ops.getD i default).dst v') (.inRegion ops post :: k)) cs w')) ∧
      DInv d ops s A ro ι₀ w₀ (pre ++ [i]) ι' w' (a.put (ops.getD i default).dst v') := by
  obtain ⟨hi, hni, _⟩ := hL.good pre i post e
  have ho : ops[i]? = some (ops.getD i default) := by simp [Array.getD, hi]
  have hwant := h.want hd hL e
  have hrho := h.rho hd hL e
  obtain ⟨q, h1, h2, h3, h4⟩ := h.heap
  -- the numbers, when one more has run
  have numF : i < d.m → (∀ k, k ∈ pre ++ [i] → d.m ≤ k → k < d.m + q) ∧ (∀ k, d.m ≤ k → k < d.m + q → k ∈ pre ++ [i]) := fun hm =>
    ⟨fun k hk hmk => by
      simp at hk
      rcases hk with hk | rfl
      · exact h1 k hk hmk
      · omega, fun k a b => by simp [h2 k a b]⟩
  have numL : i = d.m + q → (∀ k, k ∈ pre ++ [i] → d.m ≤ k → k < d.m + (q + 1)) ∧ (∀ k, d.m ≤ k → k < d.m + (q + 1) → k ∈ pre ++ [i]) := fun hm =>
    ⟨fun k hk hmk => by
      simp at hk
      rcases hk with hk | rfl
      · have := h1 k hk hmk; omega
      · omega, fun k a b => by
      by_cases hk : k = i
      · simp [hk]
      · simp [h2 k a (by omega)]⟩
  -- where the latter ones begin
  have atG : d.m ≤ i → (∀ k, k < d.m → d.st k = false → k ∈ pre) ∧ Real ι (d.G q) w ∧ Ext ι₀ A w₀ ι (d.G q) w := by
    intro hm
    rcases h4 with ⟨q0, a1, a2, _⟩ | ⟨_, a1, a2, a3⟩
    · have hiq := hd.late hL e h1 h2 hi hni hm
      have him : i = d.m := by omega
      have hall : ∀ k, k < d.m → d.st k = false → k ∈ pre := fun k hk hst => by
        have hp := hd.ahead k hk hst (by omega)
        rw [← him] at hp
        exact sched_pre hL hp pre post e
      rw [q0]
      exact ⟨hall, hd.toG hall a1 a2⟩
    · exact ⟨a1, a2, a3⟩
  cases hW : d.W i with
  | false =>
    obtain ⟨hv, hHe⟩ := hd.un i hi hW
    have hsk : ∀ (b : Frame) (k : List Item) (cs : List Frame), step P (lone (b.atR a (.inRegion ops (i :: post) :: k)) cs w) = .next (lone (b.atR (a.put (ops.getD i default).dst undef) (.inRegion ops post :: k)) cs w) := by
      intro b k cs
      have hsk := stepR_op_skip (P := P) (b := b) (a := a) (k := k) (cs := cs) (w := w) (ops := ops) (i := i) (rest := post) (by rw [ho]; show Region.wanted (ops.getD i default) (yielded ops a.tmps) = false; rw [hwant]; exact hW)
      rw [ho] at hsk
      exact hsk
    refine ⟨ι, w, undef, fun b k cs _ => .one (hsk b k cs), ?_⟩
    refine h.put hd hi hni ι.le_refl (by rw [hv]; exact VR.undef ι) ?_
    rcases Nat.lt_or_ge i d.m with hm | hm
    · refine ⟨q, (numF hm).1, (numF hm).2, h3, ?_⟩
      rcases h4 with ⟨q0, a1, a2, a3⟩ | ⟨q0, a1, a2, a3⟩
      · have hpart : d.part A (pre ++ [i]) = d.part A pre := by
          funext j
          unfold Draw.part
          have : ((A.obj j).isSome = true ∨ ∃ k, k ∈ pre ++ [i] ∧ k < d.m ∧ d.iv k j) ↔ ((A.obj j).isSome = true ∨ ∃ k, k ∈ pre ∧ k < d.m ∧ d.iv k j) := by
            constructor
            · rintro (x | ⟨k, hk, x, y⟩)
              · exact .inl x
              · simp at hk
                rcases hk with hk | rfl
                · exact .inr ⟨k, hk, x, y⟩
                · unfold Draw.iv at y; rw [hHe] at y; omega
            · rintro (x | ⟨k, hk, x, y⟩)
              · exact .inl x
              · exact .inr ⟨k, by simp [hk], x, y⟩
          by_cases hq : ((A.obj j).isSome = true ∨ ∃ k, k ∈ pre ∧ k < d.m ∧ d.iv k j)
          · rw [if_pos hq, if_pos (this.2 hq)]
          · rw [if_neg hq, if_neg (fun x => hq (this.1 x))]
        refine .inl ⟨q0, by rw [hpart]; exact a1, by rw [hpart]; exact a2, fun j b c x => a3 j b c fun k hk => x k (by simp [hk])⟩
      · exact .inr ⟨q0, fun k hk hst => by simp [a1 k hk hst], a2, a3⟩
    · have hiq := hd.late hL e h1 h2 hi hni hm
      obtain ⟨b1, b2, b3⟩ := atG hm
      have hGG : d.G (q + 1) = d.G q := by
        have := hd.lat q (by omega)
        rw [← this.1, ← this.2, ← hiq]; exact hHe
      refine ⟨q + 1, (numL hiq).1, (numL hiq).2, by omega, .inr ⟨by omega, fun k hk hst => by simp [b1 k hk hst], by rw [hGG]; exact b2, by rw [hGG]; exact b3⟩⟩
  | true =>
    have hwant' : Region.wanted (ops.getD i default) (yielded ops a.tmps) = true := by rw [hwant]; exact hW
    rcases Nat.lt_or_ge i d.m with hm | hm
    · rcases h4 with ⟨q0, a1, a2, a3⟩ | ⟨q0, a1, a2, a3⟩
      · -- one of the first, ahead of the latter ones
        have hless : ∀ j o, (d.Hs i).obj j = some o → d.part A pre j = some o := by
          intro j o hj
          rw [part_some]
          rcases hd.from' i hm j o hj with x | ⟨k, hk, hp, x1, x2, x3⟩
          · exact ⟨.inl (by rw [x]; rfl), (hd.old j o x).1⟩
          · exact ⟨.inr ⟨k, sched_pre hL hp pre post e, hk, x1, x2⟩, hd.into k hk j o x3⟩
        have hfr : ∀ j, d.iv i j → ι j = none := by
          intro j hj
          have := hd.nx i hm
          refine a3 j (by have := hj.1; omega) (by have := hj.2; omega) fun k hk hkm hkj => ?_
          have := hd.apart i k j hm hkm hj.1 hj.2 hkj.1 hkj.2
          subst this
          exact hni hk
        have hr' : Real ι (d.Hs i) w := a1.less hless
        obtain ⟨ι', w', v', st, hv, R', X'⟩ := hsem i hi hW ι w a hrho hr' (fun j b c => hfr j ⟨b, c⟩)
        refine ⟨ι', w', v', fun b k cs hk => st b k cs post hk hwant', ?_⟩
        refine h.put hd hi hni X'.mono hv ?_
        refine ⟨q, (numF hm).1, (numF hm).2, h3, .inl ⟨q0, ?_⟩⟩
        have nx := hd.nx i hm
        obtain ⟨R2, X2⟩ := RealF.frame (f' := d.part A (pre ++ [i])) (m := A.next) (m' := (d.G 0).next) a1 hless X' R' (hd.stays i hm) (by
          intro j o hj
          rw [part_some] at hj
          obtain ⟨x, y⟩ := hj
          rcases x with x | ⟨k, hk, hkm, x⟩
          · exact .inl (part_some.2 ⟨.inl x, y⟩)
          · simp at hk
            rcases hk with hk | rfl
            · exact .inl (part_some.2 ⟨.inr ⟨k, hk, hkm, x⟩, y⟩)
            · refine .inr ⟨?_, ?_, hfr j x⟩
              · rcases hd.whole j o y with z | ⟨k', hk', z1, z2, z3⟩
                · have := (hd.old j o z).2
                  have := x.1
                  omega
                · have := hd.apart k k' j hm hk' x.1 x.2 z1 z2
                  subst this; exact z3
              · cases ho : (d.Hs k).obj j with
                | none => rfl
                | some o' =>
                  obtain ⟨l, hl, _⟩ := hr'.loc j o' ho
                  rw [hfr j x] at hl; cases hl) hd.nx0 nx.1 nx.2
        refine ⟨R2, a2.transW X2 (Nat.le_refl _) (Nat.le_refl _), fun j b c x => ?_⟩
        have hj0 := a3 j b c fun k hk => x k (by simp [hk])
        cases hj : ι' j with
        | none => rfl
        | some l =>
          obtain ⟨y1, y2⟩ := X'.dom j l hj0 hj
          exact absurd ⟨y1, y2⟩ (x i (by simp) hm)
      · -- one of the first, behind some of the latter ones
        have hst : d.st i = true := by
          cases hst : d.st i with
          | true => rfl
          | false => exact absurd (a1 i hm hst) hni
        obtain ⟨_, _, hs⟩ := hd.steady i hm hst
        have hop := hs hW q h3
        obtain ⟨ι', w', v', st, hv, R', X'⟩ := opSem_aop ho hop ι w a hrho a2 (fun j b c => by omega)
        refine ⟨ι', w', v', fun b k cs hk => st b k cs post hk hwant', ?_⟩
        exact h.put hd hi hni X'.mono hv ⟨q, (numF hm).1, (numF hm).2, h3, .inr ⟨q0, fun k hk hst => by simp [a1 k hk hst], R', a3.trans X'⟩⟩
    · -- one of the latter
      have hiq := hd.late hL e h1 h2 hi hni hm
      obtain ⟨b1, b2, b3⟩ := atG hm
      have hlat := hd.lat q (by omega)
      rw [← hiq] at hlat
      have hs := hsem i hi hW
      rw [hlat.1, hlat.2] at hs
      have hn1 := Draw.Ok.Gnext hd hn q 0 (by omega)
      have hn2 := Draw.Ok.Gnext hd hn (ops.size - d.m - (q + 1)) (q + 1) (by omega)
      have eq2 : q + 1 + (ops.size - d.m - (q + 1)) = ops.size - d.m := by omega
      rw [eq2] at hn2
      rw [Nat.zero_add] at hn1
      have hnx0 := hd.nx0
      obtain ⟨ι', w', v', st, hv, R', X'⟩ := hs ι w a hrho b2 (fun j b c => by
        cases hj : ι j with
        | none => rfl
        | some l =>
          have := (b3.dom j l (hF j (by omega) (by omega)) hj).2
          omega)
      refine ⟨ι', w', v', fun b k cs hk => st b k cs post hk hwant', ?_⟩
      exact h.put hd hi hni X'.mono hv ⟨q + 1, (numL hiq).1, (numL hiq).2, by omega, .inr ⟨by omega, fun k hk hst => by simp [b1 k hk hst], R', b3.trans X'⟩⟩

/-- All of them. -/
theorem DInv.all (hd : Draw.Ok ops s A E d) (hn : ∀ i, i < ops.size → (d.Hs i).next ≤ (d.He i).next) (hL : Sched ops L)
    (hsem : ∀ i, i < ops.size → d.W i = true → OpSem P ops i (ops.getD i default) (d.rho i) (d.Hs i) (d.val i) (d.He i))
    (hF : ∀ j, A.next ≤ j → j < (d.G (ops.size - d.m)).next → ι₀ j = none) : ∀ (post pre : List Nat) (ι : Inj) (w : World) (a : Act), DInv d ops s A ro ι₀ w₀ pre ι w a → L = pre ++ post →
    ∃ ι' w' a', (∀ (b : Frame) (k : List Item) (cs : List Frame), b.kind ≠ .early →
      Steps P (lone (b.atR a (.inRegion ops post :: k)) cs w) (lone (b.atR a' (.inRegion ops [] :: k)) cs w')) ∧ DInv d ops s A ro ι₀ w₀ L ι' w' a'
  | [], pre, ι, w, a, h, e => by
    have e' : L = pre := by simpa using e
    rw [e']
    exact ⟨ι, w, a, fun b k cs _ => .refl _ _, h⟩
  | i :: post, pre, ι, w, a, h, e => by
    obtain ⟨ι1, w1, v1, st, h1⟩ := h.more hd hn hL hsem hF e
    obtain ⟨ι2, w2, a2, st2, h2⟩ := DInv.all hd hn hL hsem hF post (pre ++ [i]) ι1 w1 _ h1 (by rw [e]; simp)
    exact ⟨ι2, w2, a2, fun b k cs hk => (st b k cs hk).trans (st2 b k cs hk), h2⟩

theorem DInv.init (hd : Draw.Ok ops s A E d) (hs : StRel ι₀ s ro a) (hr : Real ι₀ A w₀) (hF : ∀ j, A.next ≤ j → j < (d.G (ops.size - d.m)).next → ι₀ j = none)
    (hn : ∀ i, i < ops.size → (d.Hs i).next ≤ (d.He i).next) : DInv d ops s A ro ι₀ w₀ [] ι₀ w₀ a := by
  have hm := hd.mle
  have hkey : ∀ j o, d.part A [] j = some o → A.obj j = some o := by
    intro j o h
    rw [part_some] at h
    rcases h.1 with h1 | ⟨k, hk, _⟩
    · obtain ⟨o', ho'⟩ := Option.isSome_iff_exists.1 h1
      have := (hd.old j o' ho').1
      rw [h.2] at this; cases this; exact ho'
    · cases hk
  refine ⟨hs.tmps.1, fun t _ => hs.tmps.2 t, fun i hi => (by cases hi), fun i _ _ t _ => hs.tmps.2 t, hs.ds, hs.rd, 0, fun k hk => (by cases hk), fun k a b => (by omega), hm, .inl ⟨rfl, hr.less hkey, ?_, ?_⟩⟩
  · have := (Ext.refl ι₀ A w₀).less hkey
    exact ⟨this.mono, hd.nx0, this.size, fun i l e e' => (by rw [e] at e'; cases e'), this.keep, this.own, this.os, this.ro, this.fz⟩
  · intro j b c _
    have h2 := Draw.Ok.Gnext hd hn (ops.size - d.m) 0 (by omega)
    rw [Nat.zero_add] at h2
    exact hF j b (by omega)

theorem DInv.fin (hd : Draw.Ok ops s A E d) (hL : Sched ops L) (h : DInv d ops s A ro ι₀ w₀ L ι w a) :
    StRel ι { s with tmps := d.tF } ro a ∧ Real ι (d.G (ops.size - d.m)) w ∧ Ext ι₀ A w₀ ι (d.G (ops.size - d.m)) w := by
  obtain ⟨q, h1, h2, h3, h4⟩ := h.heap
  have hq : q = ops.size - d.m := by
    rcases Nat.lt_or_ge (d.m + q) ops.size with hlt | hge
    · have := h1 _ (hL.all _ hlt) (by omega)
      omega
    · omega
  refine ⟨⟨h.rd, ⟨h.size, fun t => ?_⟩, h.ds⟩, ?_⟩
  · by_cases hw : ∃ k, k < ops.size ∧ (ops.getD k default).dst = some t
    · obtain ⟨k, hk, hkt⟩ := hw
      rw [(hd.dst k hk t hkt).2]
      exact h.done k (hL.all k hk) t hkt
    · have hfree : ∀ k, k < ops.size → (ops.getD k default).dst ≠ some t := fun k hk hkt => hw ⟨k, hk, hkt⟩
      rw [hd.rest t hfree]
      exact h.free t hfree
  · rcases h4 with ⟨q0, a1, a2, _⟩ | ⟨q0, a1, a2, a3⟩
    · rw [← hq, q0]
      exact hd.toG (fun k hk _ => hL.all k (by have := hd.mle; omega)) a1 a2
    · rw [← hq]; exact ⟨a2, a3⟩

end
end Go.Abs

/- The simulation theorem. -/
namespace Go.Abs
open Go
variable {P : Program}

theorem sim {E : Env P} {X : FuncId → List Value → AHeap → Value → AHeap → Prop} (hcall : ∀ f d c, E.fns f = some d → d.body = some c → ∀ args w, (callFunc f args).run P w = .ok (.enter f args) w)
    (hX : ∀ f args A v A', X f args A v A' → Sem' P (.call f args A v A')) {j : J} (h : BS E X j) : Sem' P j := by
  induction h with
  | skip => exact ⟨Nat.le_refl _, rfl, rfl, fun ι w ro a hs hr _ => ⟨ι, w, a, fun b k cs _ _ _ => .one stepR_skip, hs, hr, Ext.refl _ _ _⟩⟩
  | label => exact ⟨Nat.le_refl _, rfl, rfl, fun ι w ro a hs hr _ => ⟨ι, w, a, fun b k cs _ _ _ => .one stepR_label, hs, hr, Ext.refl _ _ _⟩⟩
  | seq _ _ ih ih' =>
    obtain ⟨n1, f1, r1, g1⟩ := ih
    obtain ⟨n2, f2, r2, g2⟩ := ih'
    refine ⟨Nat.le_trans n1 n2, f2.trans f1, r2.trans r1, fun ι w ro a hs hr hF => ?_⟩
    obtain ⟨ι1, w1, a1, q1, s1, R1, X1⟩ := g1 ι w ro a hs hr (hF.left n2)
    obtain ⟨ι2, w2, a2, q2, s2, R2, X2⟩ := g2 ι1 w1 ro a1 s1 R1 (hF.right X1)
    exact ⟨ι2, w2, a2, fun b k cs hk hfn hro => Arr.of_steps ((Steps.one stepR_seq).trans (q1 b _ cs hk hfn hro)) (q2 b k cs hk (hfn.trans f1.symm) hro), s2, R2, X1.trans X2⟩
  | seqOut _ he ih =>
    obtain ⟨n1, f1, r1, g1⟩ := ih
    refine ⟨n1, f1, r1, fun ι w ro a hs hr hF => ?_⟩
    obtain ⟨ι1, w1, a1, q1, s1, R1, X1⟩ := g1 ι w ro a hs hr hF
    exact ⟨ι1, w1, a1, fun b k cs hk hfn hro => Arr.of_steps (Steps.one stepR_seq) (Arr.pass he (fun id => exitTo_code id _ _) (q1 b _ cs hk hfn hro)), s1, R1, X1⟩
  | cond hc _ ih =>
    obtain ⟨n1, f1, r1, g1⟩ := ih
    refine ⟨n1, f1, r1, fun ι w ro a hs hr hF => ?_⟩
    obtain ⟨ι1, w1, a1, q1, s1, R1, X1⟩ := g1 ι w ro a hs hr hF
    exact ⟨ι1, w1, a1, fun b k cs hk hfn hro => Arr.of_steps (Steps.one (stepR_cond (hs.ev _ _ hc).bool_inv)) (q1 b k cs hk hfn hro), s1, R1, X1⟩
  | @block id c s s₁ A A₁ e _ ih =>
    obtain ⟨n1, f1, r1, g1⟩ := ih
    refine ⟨n1, f1, r1, fun ι w ro a hs hr hF => ?_⟩
    obtain ⟨ι1, w1, a1, q1, s1, R1, X1⟩ := g1 ι w ro a hs hr hF
    refine ⟨ι1, w1, a1, fun b k cs hk hfn hro => Arr.of_steps (Steps.one stepR_block) ?_, s1, R1, X1⟩
    have q1 := q1 b (.inBlock id :: k) cs hk hfn hro
    cases e with
    | normal => simp only [reduceCtorEq, if_false]; exact Steps.trans q1 (.one stepR_inBlock)
    | exit id' =>
      obtain ⟨k₁, q, st⟩ := q1
      by_cases hid : id' = id
      · subst hid
        rw [if_pos rfl]
        have hk1 : exitTo id' k₁ = some k := by rw [q]; simp [exitTo]
        exact st.trans (.one (stepR_exit hk1))
      · rw [if_neg (by simpa using hid)]
        have hx : exitTo id' (.inBlock id :: k) = exitTo id' k := by
          simp only [exitTo]
          rw [if_neg (by simpa using fun e : id = id' => hid e.symm)]
        exact ⟨k₁, q.trans hx, st⟩
    | ret => simp only [reduceCtorEq, if_false]; exact q1
  | @loop c s s₁ s₂ A A₁ A₂ e _ _ ih ih' =>
    obtain ⟨n1, f1, r1, g1⟩ := ih
    obtain ⟨n2, f2, r2, g2⟩ := ih'
    refine ⟨Nat.le_trans n1 n2, f2.trans f1, r2.trans r1, fun ι w ro a hs hr hF => ?_⟩
    obtain ⟨ι1, w1, a1, q1, s1, R1, X1⟩ := g1 ι w ro a hs hr (hF.left n2)
    obtain ⟨ι2, w2, a2, q2, s2, R2, X2⟩ := g2 ι1 w1 ro a1 s1 R1 (hF.right X1)
    refine ⟨ι2, w2, a2, fun b k cs hk hfn hro => Arr.of_steps ((Steps.one stepR_loop).trans (q1 b _ cs hk hfn hro)) ?_, s2, R2, X1.trans X2⟩
    exact Arr.swap (x := .code (.loop c)) (y := .inLoop c) (stepR_loop.trans stepR_inLoop.symm) (fun c' e => by cases e; exact ⟨fun id e => (by cases e), fun e => (by cases e)⟩) (q2 b k cs hk (hfn.trans f1.symm) hro)
  | @loopOut c s s₁ A A₁ e _ he ih =>
    obtain ⟨n1, f1, r1, g1⟩ := ih
    refine ⟨n1, f1, r1, fun ι w ro a hs hr hF => ?_⟩
    obtain ⟨ι1, w1, a1, q1, s1, R1, X1⟩ := g1 ι w ro a hs hr hF
    exact ⟨ι1, w1, a1, fun b k cs hk hfn hro => Arr.of_steps (Steps.one stepR_loop) (Arr.pass he (fun id => exitTo_loop id _ _) (q1 b _ cs hk hfn hro)), s1, R1, X1⟩
  | exit => exact ⟨Nat.le_refl _, rfl, rfl, fun ι w ro a hs hr _ => ⟨ι, w, a, fun b k cs _ _ _ => ⟨k, rfl, .refl _ _⟩, hs, hr, Ext.refl _ _ _⟩⟩
  | ret => exact ⟨Nat.le_refl _, rfl, rfl, fun ι w ro a hs hr _ => ⟨ι, w, a, fun b k cs _ _ _ => ⟨k, .refl _ _⟩, hs, hr, Ext.refl _ _ _⟩⟩
  | @region id ops s s₁ A A₁ _ ih =>
    obtain ⟨n1, f1, r1, g1⟩ := ih
    refine ⟨n1, f1, r1, fun ι w ro a hs hr hF => ?_⟩
    obtain ⟨ι1, w1, a1, q1, s1, R1, X1⟩ := g1 ι w ro a (by simp) hs hr hF
    refine ⟨ι1, w1, a1, fun b k cs hk hfn hro => ?_, s1, R1, X1⟩
    have e : List.range ops.size = List.range' 0 ops.toList.length := by rw [List.range_eq_range']; simp
    exact (Steps.one stepR_region).trans (by rw [e]; exact (q1 b k cs hk hfn hro).trans (.one stepR_region_end))
  | @range f params assign body s A A₁ A₂ fv D L ds v r hf hg hD hs0 _ hr0 hb hp ih =>
    obtain ⟨n1, g1⟩ := ih
    refine ⟨Nat.le_trans (start_next hs0) (by simpa using n1), rfl, rfl, fun ι w ro a hs hr hF => ?_⟩
    obtain ⟨ι2, w2, l, mark, w1, q, s2, R2, X2, hL⟩ := range_sim hf hg hD hs0 g1 n1 hs hr (fun i p q => hF i p (by simpa using q)) hr0
    obtain ⟨r', h1, h2⟩ := hL
    have hend : (Instr.endLoop l.blk).run P w2 = .ok none { w2 with heap := w2.heap.setIfInBounds l.blk (.loop { r' with state := .exhausted }) } := by
      have hst : (r'.state == .busy) = false := by rw [h2.1]; cases hrs : r.state <;> first | rfl | exact absurd hrs hb
      simp only [Instr.endLoop, Sem.run_bind, run_getLoop h1, Result.andThen_ok, hst, Bool.false_eq_true, if_false, run_setLoop h1, Sem.run_pure, h2.2.1, hp]
    obtain ⟨R3, X3⟩ := R2.turnLoop hr0 w1 (h2.setState .exhausted)
    refine ⟨ι2, _, { a with defers := mark ++ a.defers }, fun b k cs hk hfn hro => ?_, s2, R3, X2.trans X3⟩
    have hst := stepR_endRangeFunc (b := b) (a := { a with defers := mark ++ a.defers }) (k := k) (cs := cs) hend
    exact (q b k cs hk hfn hro).trans (.one hst)
  | @rangeOut f params assign body s s₁ A A₁ A₂ A₃ fv D L ds v r c e hf hg hD hs0 _ hr0 hb hp _ ih ih' =>
    obtain ⟨n1, g1⟩ := ih
    obtain ⟨n2, f2, r2, g2⟩ := ih'
    have n2' : A₂.next ≤ A₃.next := by simpa using n2
    refine ⟨Nat.le_trans (start_next hs0) (Nat.le_trans n1 n2'), f2, r2, fun ι w ro a hs hr hF => ?_⟩
    obtain ⟨ι2, w2, l, mark, w1, q, s2, R2, X2, hL⟩ := range_sim hf hg hD hs0 g1 n1 hs hr (hF.left n2') hr0
    obtain ⟨r', h1, h2⟩ := hL
    have hend : (Instr.endLoop l.blk).run P w2 = .ok (some c) { w2 with heap := w2.heap.setIfInBounds l.blk (.loop { r' with state := .exhausted }) } := by
      have hst : (r'.state == .busy) = false := by rw [h2.1]; cases hrs : r.state <;> first | rfl | exact absurd hrs hb
      simp only [Instr.endLoop, Sem.run_bind, run_getLoop h1, Result.andThen_ok, hst, Bool.false_eq_true, if_false, run_setLoop h1, Sem.run_pure, h2.2.1, hp]
    obtain ⟨R3, X3⟩ := R2.turnLoop hr0 w1 (h2.setState .exhausted)
    obtain ⟨ι3, w3, a3, q3, s3, R4, X4⟩ := g2 ι2 _ ro { a with defers := mark ++ a.defers } s2 R3 (hF.right (X2.trans X3))
    refine ⟨ι3, w3, a3, fun b k cs hk hfn hro => ?_, s3, R4, (X2.trans X3).trans X4⟩
    have hst := stepR_endRangeFunc (b := b) (a := { a with defers := mark ++ a.defers }) (k := k) (cs := cs) hend
    exact Arr.of_steps ((q b k cs hk hfn hro).trans (.one hst)) (q3 b k cs hk hfn hro)
  | @regionD id ops s A d hd hn _ ih =>
    have hm := hd.mle
    have h0 := Draw.Ok.Gnext hd hn (ops.size - d.m) 0 (by omega)
    rw [Nat.zero_add] at h0
    refine ⟨Nat.le_trans hd.nx0 h0, rfl, rfl, fun ι w ro a hs hr hF => ?_⟩
    have hsem : ∀ i, i < ops.size → d.W i = true → OpSem P ops i (ops.getD i default) (d.rho i) (d.Hs i) (d.val i) (d.He i) := by
      intro i hi hW
      have ho : ops[i]? = some (ops.getD i default) := by simp [Array.getD, hi]
      cases hC : d.isC i with
      | false => exact opSem_aop ho (hd.op i hi hW hC)
      | true =>
        obtain ⟨c, f, hop, hc, hf, ha⟩ := hd.call i hi hW hC
        exact opSem_call ho hop hc hf ha (ih i hi hW hC)
    -- whatever the draw says
    have key : ∀ (fn : FuncId), ∃ ι' w' a', (∀ (b : Frame) (k : List Item) (cs : List Frame), b.kind ≠ .early → b.fn = fn →
        Steps P (lone (b.atR a (.code (.region id ops true) :: k)) cs w) (lone (b.atR a' k) cs w')) ∧
        StRel ι' { s with tmps := d.tF } ro a' ∧ Real ι' (d.G (ops.size - d.m)) w' ∧ Ext ι A w ι' (d.G (ops.size - d.m)) w' := by
      intro fn
      obtain ⟨R1, X1⟩ := hr.world (w' := { w with drawn := w.drawn + 1 }) rfl ⟨rfl, rfl, rfl⟩
      have hL := schedule_sched (P.follows .mixedOrders) ops hd.low (w.tape w.drawn (.order fn id))
      obtain ⟨ι2, w2, a2, st, h2⟩ := DInv.all hd hn hL hsem hF _ [] ι _ a (DInv.init hd hs R1 hF hn) rfl
      obtain ⟨S2, R2, X2⟩ := h2.fin hd hL
      refine ⟨ι2, w2, a2, fun b k cs hk hfn => ?_, S2, R2, X1.trans X2⟩
      have h3 := stepR_region_draw (P := P) (b := b) (a := a) (k := k) (cs := cs) (w := w) (ops := ops) (id := id)
      rw [hfn] at h3
      exact (Steps.one h3).trans ((st b k cs hk).trans (.one stepR_region_end))
    obtain ⟨ι', w', a', st, q⟩ := key s.fn
    exact ⟨ι', w', a', fun b k cs hk hfn _ => st b k cs hk hfn, q⟩
  | @weakApp fv args A B v A' B' _ h0 hn h1 hn' ih =>
    obtain ⟨n1, g1⟩ := ih
    have hobj : A.obj = B.obj := funext h0
    refine ⟨by rw [← hn, hn']; exact n1, fun ι w fv' args' hv ha hr hF => ?_⟩
    have hr' : Real ι A w := by unfold Real; rw [hobj]; exact hr
    obtain ⟨ι', w', v', p, q, R', X'⟩ := g1 ι w fv' args' hv ha hr' (fun i x y => hF i (by rw [← hn]; exact x) (by rw [hn']; exact y))
    refine ⟨ι', w', v', p, q, R'.less h1, ?_⟩
    have := X'.less h1
    unfold Ext
    rw [hn', ← hn, ← hobj]
    exact this
  | nil => exact ⟨Nat.le_refl _, rfl, rfl, fun ι w ro a _ hs hr _ => ⟨ι, w, a, fun b k cs _ _ _ => .refl _ _, hs, hr, Ext.refl _ _ _⟩⟩
  | @opSkip ops i o l s s₁ s₂ A A₁ hw hp _ ih =>
    obtain ⟨n1, f1, r1, g1⟩ := ih
    obtain ⟨p1, p2, _⟩ := St.put_same hp
    refine ⟨n1, f1.trans p1, r1.trans p2, fun ι w ro a hdrop hs hr hF => ?_⟩
    obtain ⟨ho, hdrop'⟩ := drop_cons hdrop
    obtain ⟨ι1, w1, a1, q1, s1, R1, X1⟩ := g1 ι w ro (a.put o.dst undef) hdrop' (hs.put hp (VR.undef ι)) hr hF
    refine ⟨ι1, w1, a1, fun b k cs hk hfn hro => ?_, s1, R1, X1⟩
    have hsk := stepR_op_skip (P := P) (b := b) (a := a) (k := k) (cs := cs) (w := w) (ops := ops) (i := i) (rest := List.range' (i + 1) l.length) (by rw [ho]; simp [hs.wants, hw])
    rw [ho] at hsk
    simp only [List.length_cons, List.range'_succ]
    exact (Steps.one hsk).trans (q1 b k cs hk (hfn.trans p1.symm) hro)
  | @op ops i o l s s₁ s₂ A A₁ A₂ v hw hop hp _ ih =>
    obtain ⟨n1, f1, r1, g1⟩ := ih
    obtain ⟨p1, p2, _⟩ := St.put_same hp
    have n0 : A.next ≤ A₁.next := aop_next hop
    refine ⟨Nat.le_trans n0 n1, f1.trans p1, r1.trans p2, fun ι w ro a hdrop hs hr hF => ?_⟩
    obtain ⟨ho, hdrop'⟩ := drop_cons hdrop
    obtain ⟨ι', w', v', x, e1, e2, hv, R', X'⟩ := aop_sim hop hs.ev hr (hF.left n1)
    have hsem : ∀ ro, o.semAt ro a.eval = execOp a.eval o := fun ro => Oper.semAt_eq _ _ _ (fun c e => by unfold aop at hop; rw [e] at hop; cases hop)
    obtain ⟨ι1, w1, a1, q1, s1, R1, X1⟩ := g1 ι' w' ro (a.put o.dst v') hdrop' ((hs.mono X'.mono).put hp hv) R' (hF.right X')
    refine ⟨ι1, w1, a1, fun b k cs hk hfn hro => ?_, s1, R1, X'.trans X1⟩
    simp only [List.length_cons, List.range'_succ]
    have hwant : Region.wanted o (yielded ops a.tmps) = true := by rw [hs.wants]; exact hw
    have q1 := q1 b k cs hk (hfn.trans p1.symm) hro
    rcases e2 with rfl | ⟨rfl, rfl⟩
    · exact (Steps.one (step_value ho hwant (by rw [hsem]; exact e1))).trans q1
    · exact (Steps.one (step_skip' ho hwant (by rw [hsem]; exact e1))).trans q1
  | @opCall ops i o l s s₁ s₂ A A₁ A₂ v c f fv args hw hop hc hf ha _ hp _ ihi ih =>
    obtain ⟨n1, f1, r1, g1⟩ := ih
    obtain ⟨n0, g0⟩ := ihi
    obtain ⟨p1, p2, _⟩ := St.put_same hp
    refine ⟨Nat.le_trans n0 n1, f1.trans p1, r1.trans p2, fun ι w ro a hdrop hs hr hF => ?_⟩
    obtain ⟨ho, hdrop'⟩ := drop_cons hdrop
    obtain ⟨ι', w', v', happ, hv, R', X'⟩ := g0 ι w (a.eval f) (c.args.toList.map a.eval) (hs.ev _ _ hf) (evList_sim hs.ev ha) hr (hF.left n1)
    obtain ⟨ι1, w1, a1, q1, s1, R1, X1⟩ := g1 ι' w' ro (a.put o.dst v') hdrop' ((hs.mono X'.mono).put hp hv) R' (hF.right X')
    refine ⟨ι1, w1, a1, fun b k cs hk hfn hro => ?_, s1, R1, X'.trans X1⟩
    simp only [List.length_cons, List.range'_succ]
    have hwant : Region.wanted o (yielded ops a.tmps) = true := by rw [hs.wants]; exact hw
    have hargs : (c.args.toList.map a.eval).toArray = c.args.map a.eval := by rw [← List.map_toArray, Array.toArray_toList]
    rw [hargs] at happ
    exact (app_step ho hwant hop hc happ).trans (q1 b k cs hk (hfn.trans p1.symm) hro)
  | @opDefer ops i o l s s₁ s₂ A A₁ c f fn first cap args hw hrd hop hc hf ha hp _ ih =>
    obtain ⟨n1, f1, r1, g1⟩ := ih
    obtain ⟨p1, p2, p3⟩ := St.put_same hp
    refine ⟨n1, f1.trans p1, r1.trans p2, fun ι w ro a hdrop hs hr hF => ?_⟩
    obtain ⟨ho, hdrop'⟩ := drop_cons hdrop
    have hwant : Region.wanted o (yielded ops a.tmps) = true := by rw [hs.wants]; exact hw
    have hro' : ro = none := by have := hs.rd; rw [hrd] at this; exact this
    have hfv := hs.ev _ _ hf
    generalize hσ : a.eval f = y at hfv
    cases hfv with
    | func hs1 hh1 hs2 hh2 =>
      rename_i first' cap'
      have hal := (evList_sim hs.ev ha).to_array
      have hargs : (c.args.toList.map a.eval).toArray = c.args.map a.eval := by rw [← List.map_toArray, Array.toArray_toList]
      rw [hargs] at hal
      have hs' : StRel ι { s with ds := { target := .fn (.func fn) cap, args := first ++ args.toArray } :: s.ds } ro
          { a with defers := { target := .fn (.func fn) cap', args := first' ++ c.args.map a.eval } :: a.defers } :=
        ⟨hs.rd, hs.tmps, .cons (.fn ⟨hs2, hh2⟩ (VRs.append ⟨hs1, hh1⟩ hal)) hs.ds⟩
      obtain ⟨ι1, w1, a1, q1, s1, R1, X1⟩ := g1 ι w ro _ hdrop' (hs'.put hp (VR.undef ι)) hr hF
      refine ⟨ι1, w1, a1, fun b k cs hk hfn hro => ?_, s1, R1, X1⟩
      simp only [List.length_cons, List.range'_succ]
      refine (Steps.one (step_defer' ho hwant (d := { target := .fn (.func fn) cap', args := first' ++ c.args.map a.eval }) ?_)).trans (q1 b k cs hk (hfn.trans p1.symm) hro)
      rw [hro, hro', Oper.semAt_none]
      unfold execOp; rw [hop]
      simp [resolve, hc, hσ, Deferred.ofValue]
  | appFn _ ih =>
    obtain ⟨n0, g0⟩ := ih
    refine ⟨n0, fun ι w fv' args' hv ha hr hF => ?_⟩
    cases hv with
    | func hs1 hh1 hs2 hh2 =>
      rename_i first' cap'
      have h1 : VRs ι _ first' := ⟨hs1, hh1⟩
      have h2 : VRs ι _ cap' := ⟨hs2, hh2⟩
      have hall : VRs ι _ (first' ++ args'.toArray ++ cap') := (h1.append ha.to_array).append h2
      obtain ⟨ι', w', v', hc, q⟩ := g0 ι w (first' ++ args'.toArray ++ cap').toList (by simpa using hall.to_list) hr hF
      refine ⟨ι', w', v', .inl ⟨_, first', cap', rfl, ?_⟩, q⟩
      rw [Array.toArray_toList] at hc; exact hc
  | appYield _ ih =>
    obtain ⟨n0, g0⟩ := ih
    refine ⟨n0, fun ι w fv' args' hv ha hr hF => ?_⟩
    obtain ⟨L, ι', w', v', hL, hy, q⟩ := g0 ι w args' ha hr hF
    cases hv with
    | yield h => rw [hL] at h; cases h; exact ⟨ι', w', v', .inr ⟨_, rfl, hy⟩, q⟩
  | @call f args A A₁ A₂ fn c e s₁ l hf hb _ he _ hr0 ih ih' =>
    obtain ⟨n1, f1, r1, g1⟩ := ih
    obtain ⟨n2, g2⟩ := ih'
    refine ⟨Nat.le_trans n1 n2, fun ι w args' ha hr hF => ?_⟩
    have hfn := E.fns_ok _ _ hf
    have hs0 : StRel ι { fn := f, rd := none, n := args.length + (fn.ntmps - args.length), tmps := T.ofList args, ds := [] } none
        { tmps := args'.toArray ++ Array.replicate (fn.ntmps - args'.toArray.size) undef, defers := [] } := ⟨rfl, TR_ofList fn.ntmps ha, .nil⟩
    obtain ⟨ι1, w1, a1, q1, s1, R1, X1⟩ := g1 ι w none _ hs0 hr (hF.left n2)
    obtain ⟨ι2, w2, q2, R2, X2⟩ := g2 ι1 w1 a1.defers s1.ds R1 (hF.right X1)
    obtain ⟨l', p1, p2⟩ := aResults_sim (P := P) (s1.tmps.mono X2.mono) R2 hr0
    refine ⟨ι2, w2, oneOf l', .inr ⟨hcall _ _ _ hf hb _ _, fun kind cs hkind => ?_⟩, oneOf_VR p2, R2, X1.trans X2⟩
    let b : Frame := { (default : Frame) with fn := f, kind := kind, roundOf := none }
    have henter : Frame.enter P f args'.toArray kind = b.atR { tmps := args'.toArray ++ Array.replicate (fn.ntmps - args'.toArray.size) undef, defers := [] } [.code c] := by
      simp [Frame.enter, Frame.atR, hfn, hb, b]
    have q := q1 b [] cs hkind rfl rfl
    rw [← henter] at q
    have fin : ∀ todo, Steps P (lone (Frame.enter P f args'.toArray kind) cs w) (lone { b.atR a1 todo with mode := .returning } cs w1) →
        ∃ fr, Steps P (lone (Frame.enter P f args'.toArray kind) cs w) (lone fr cs w2) ∧ fr.mode = .returning ∧ fr.defers = [] ∧ fr.kind = kind ∧ fr.fn = f ∧ ∃ fn, P.funcs[f]? = some fn ∧ (results fn fr.tmps).run P w2 = .ok (oneOf l') w2 := fun todo hst =>
      ⟨_, hst.trans (q2 { b.atR a1 todo with mode := .returning } cs rfl rfl), rfl, rfl, rfl, rfl, fn, hfn, run_results p1⟩
    rcases he with rfl | rfl
    · exact fin [] (Steps.trans q (.one (stepR_end rfl)))
    · obtain ⟨k₁, q⟩ := q
      exact fin _ (Steps.trans q (.one (stepR_ret rfl)))
  | ext h => exact hX _ _ _ _ _ h
  | @yield l args A A₁ A₃ r r₁ r₃ s₁ s₂ e hl hn hps _ hl1 hst _ hds hl3 ih ih' =>
    obtain ⟨n1, f1, r1, g1⟩ := ih
    obtain ⟨n2, f2, r2, g2⟩ := ih'
    have n2' : A₁.next ≤ A₃.next := by simpa using n2
    refine ⟨by simpa using Nat.le_trans n1 n2', fun ι w args' ha hr hF => ?_⟩
    have hF' : Fresh ι A A₃ := fun i p q => hF i p (by simpa using q)
    obtain ⟨L, r', hL, h1, h2⟩ := hr.loop hl
    have hs0 : StRel ι { fn := r.fn, rd := some l, n := r.n, tmps := setAll r.tmps (r.params.toList.zip args), ds := [] } (some L.blk)
        { tmps := (r'.params.zip args'.toArray).foldl (fun tmps (t, a) => tmps.setIfInBounds t a) r'.tmps, defers := [] } := by
      refine ⟨⟨L, hL, rfl⟩, ?_, .nil⟩
      have := setAll_sim (n := r.n) (ps := r.params.toList) hps ha h2.2.2.2.2.2.2.1
      rw [h2.2.2.2.1]
      simp only [← Array.foldl_toList, Array.toList_zip]
      exact this
    obtain ⟨ι1, w1, a1, q1, s1, R1, X1⟩ := g1 ι w (some L.blk) _ hs0 hr (hF'.left n2')
    obtain ⟨L1, r1', hL1, h11, h12⟩ := R1.loop hl1
    have eL : L1 = L := by have := X1.mono _ _ hL; rw [hL1] at this; cases this; rfl
    subst eL
    obtain ⟨R2, X2⟩ := R1.turnLoop hl1 hL1 (h12.setState .busy)
    have hbr : (Instr.beginRound L1.blk).run P w1 = .ok () { w1 with heap := w1.heap.setIfInBounds L1.blk (.loop { r1' with state := .busy }) } := by
      have hst' : r1'.state = .ready := h12.1.trans hst
      simp [Instr.beginRound, run_getLoop h11, run_setLoop h11, hst']
    obtain ⟨ι3, w3, a3, q3, s3, R3, X3⟩ := g2 ι1 _ (some L1.blk) a1 s1 R2 (hF'.right (X1.trans X2))
    obtain ⟨L3, r3', hL3, h31, h32⟩ := R3.loop hl3
    have eL3 : L3 = L1 := by have := X3.mono _ _ hL1; rw [hL3] at this; cases this; rfl
    subst eL3
    obtain ⟨R4, X4⟩ := R3.turnLoop hl3 hL3 (h32.set (if (jumpOf e).isNone then .ready else .done) (jumpOf e))
    refine ⟨L3, ι3, _, .bool (jumpOf e).isNone, hL, ⟨r.fn, (r'.params.zip args'.toArray).foldl (fun tmps (t, a) => tmps.setIfInBounds t a) r'.tmps, r.assign, r.body, ?_, fun c cs => ?_⟩, .bool _, R4, ((X1.trans X2).trans X3).trans X4⟩
    · have hsz : args'.toArray.size = r'.params.size := by rw [h2.2.2.2.1, ← hn]; simpa using ha.1.symm
      simp only [Instr.yield, Sem.run_bind, run_getLoop h1, Result.andThen_ok, hsz, ne_eq, not_true, if_false, Sem.run_pure]
      rw [h2.2.2.1, h2.2.2.2.2.1, h2.2.2.2.2.2.1]
    · let b : Frame := { (default : Frame) with fn := r.fn, kind := .normal, roundOf := some L3.blk }
      have hb0 : ∀ tm, Frame.round L3.blk r.fn tm r.assign r.body .normal = b.atR { tmps := tm, defers := [] } [.code r.assign, .beginRound, .code r.body] := fun tm => by simp [Frame.round, Frame.atR, b]
      rw [hb0]
      have s1' := q1 b [.beginRound, .code r.body] (c :: cs) (by simp [b]) rfl rfl
      have s2' : Steps P (lone (b.atR a1 [.beginRound, .code r.body]) (c :: cs) w1) (lone (b.atR a1 [.code r.body]) (c :: cs) { w1 with heap := w1.heap.setIfInBounds L3.blk (.loop { r1' with state := .busy }) }) :=
        .one (stepR_beginRound rfl hbr)
      have s3' := q3 b [] (c :: cs) (by simp [b]) f1.symm rfl
      have hend : (Instr.endRound L3.blk (jumpOf e)).run P w3 = .ok (.bool (jumpOf e).isNone) { w3 with heap := w3.heap.setIfInBounds L3.blk (.loop { r3' with state := if (jumpOf e).isNone then .ready else .done, pending := jumpOf e }) } := by
        simp [Instr.endRound, run_getLoop h31, run_setLoop h31]
      refine (Steps.trans s1' s2').trans ?_
      cases e with
      | normal => exact Steps.trans s3' (.one (stepR_round_end rfl rfl hend))
      | ret =>
        obtain ⟨k₁, s3'⟩ := s3'
        exact Steps.trans s3' (.one (stepR_round_ret rfl rfl hend))
      | exit id =>
        obtain ⟨k₁, hk₁, s3'⟩ := s3'
        exact Steps.trans s3' (.one (stepR_round_exit rfl rfl (hk₁.trans rfl) hend))
  | leaveNil =>
    refine ⟨Nat.le_refl _, fun ι w ds' hd hr _ => ⟨ι, w, fun fr cs e1 _ => ?_, hr, Ext.refl _ _ _⟩⟩
    cases hd
    have e' : ({ fr with defers := [] } : Frame) = fr := by rw [← e1]
    rw [e']; exact .refl _ _
  | @leaveMark d ds A A' D ht hD _ ih =>
    obtain ⟨n1, g1⟩ := ih
    refine ⟨by simpa using n1, fun ι w ds' hd hr hF => ?_⟩
    cases hd with
    | cons h0 hd' =>
      rename_i d' ds''
      cases h0 with
      | fn => simp at ht
      | mark hl =>
        rename_i D' l
        simp only [Target.collected.injEq] at ht
        subst ht
        obtain ⟨l', hl', hblk⟩ := hr.loc _ _ hD
        rw [hl] at hl'; cases hl'
        simp only [ObjRel] at hblk
        have hbd := hr.dom _ _ hl
        obtain ⟨R1, X1⟩ := hr.turn (o' := .dead) (w' := { w with heap := w.heap.setIfInBounds l.blk (.deferred none) }) hD rfl hl (by simp)
          (fun b hb' => by simp only [Array.getElem?_setIfInBounds]; rw [if_neg (fun e => hb' e.symm)]) ⟨rfl, rfl, rfl⟩ (by simp) trivial
          (fun _ a ha => cold_at fun O hO => by
            rw [ha] at hO
            simp only [Array.getElem?_setIfInBounds, if_true] at hO
            split at hO
            · have := Option.some.inj hO
              subst this; exact fun _ _ _ e => (by cases e)
            · rename_i hn; exact absurd hbd hn)
        obtain ⟨ι2, w2, q2, R2, X2⟩ := g1 ι _ ds'' hd' R1 (fun i p q => hF i (by simpa using p) q)
        refine ⟨ι2, w2, fun fr cs e1 e2 => ?_, R2, X1.trans X2⟩
        have htk : (Instr.takeDeferred l.blk).run P w = .ok [] { w with heap := w.heap.setIfInBounds l.blk (.deferred none) } := by
          simp [Instr.takeDeferred, getObj, setObj, Sem.run, hblk]
        have hstep : step P (lone fr cs w) = .next (lone { fr with defers := ds'' } cs { w with heap := w.heap.setIfInBounds l.blk (.deferred none) }) :=
          step_lone_go (by simp [stepG, unwind, e1, e2, Sem.runT_eq, htk, GStep.bare_after])
        exact (Steps.one hstep).trans (q2 { fr with defers := ds'' } cs rfl e2)
  | @leaveCall d ds A A₁ A' fn cap v ht _ _ ihi ih =>
    obtain ⟨n0, g0⟩ := ihi
    obtain ⟨n1, g1⟩ := ih
    refine ⟨Nat.le_trans n0 n1, fun ι w ds' hd hr hF => ?_⟩
    cases hd with
    | cons h0 hd' =>
      rename_i d' ds''
      obtain ⟨f, c, c', a, a', rfl, rfl, hc, ha⟩ : ∃ (f : FuncId) (c c' a a' : Array Value), d = { target := .fn (.func f) c, args := a } ∧ d' = { target := .fn (.func f) c', args := a' } ∧ VRs ι c c' ∧ VRs ι a a' := by
        cases h0 with
        | mark hl => simp at ht
        | fn hc ha => exact ⟨_, _, _, _, _, rfl, rfl, hc, ha⟩
      · simp only [Target.fn.injEq, Fn.func.injEq] at ht
        obtain ⟨rfl, rfl⟩ := ht
        have hall : VRs ι (a ++ c) (a' ++ c') := ha.append hc
        obtain ⟨ι1, w1, v', hcall', hv, R1, X1⟩ := g0 ι w (a' ++ c').toList (by simpa using hall.to_list) hr (hF.left n1)
        rw [Array.toArray_toList] at hcall'
        obtain ⟨ι2, w2, q2, R2, X2⟩ := g1 ι1 w1 ds'' (hd'.mono X1.mono) R1 (hF.right X1)
        refine ⟨ι2, w2, fun fr cs e1 e2 => ?_, R2, X1.trans X2⟩
        have hinv : (invoke (.fn (.func f) c') a').run P w = (callFunc f (a' ++ c')).run P w := rfl
        refine Steps.trans ?_ (q2 { fr with defers := ds'' } cs rfl e2)
        rcases hcall' with hval | ⟨hent, hs⟩
        · exact .one (step_lone_go (by simp [stepG, unwind, callDeferred, e1, e2, Sem.runT_eq, hinv, hval, GStep.bare_after]))
        · obtain ⟨fr', q, q1, q3, q4, q5, fnn, q6, q7⟩ := hs .deferred ({ fr with defers := ds'' } :: cs) (by simp)
          have h1 : step P (lone fr cs w) = .next (lone (Frame.enter P f (a' ++ c') .deferred) ({ fr with defers := ds'' } :: cs) w) :=
            step_lone_go (by simp [stepG, unwind, callDeferred, e1, e2, Sem.runT_eq, hinv, hent, GStep.bare_after])
          have h2 : step P (lone fr' ({ fr with defers := ds'' } :: cs) w1) = .next (lone { fr with defers := ds'' } cs w1) :=
            step_lone_go (by simp [stepG, unwind, doReturn, q1, q3, q4, q5, q6, Sem.runT_eq, q7, GStep.bare_after, e2])
          exact .head h1 (q.trans (.one h2))

end Go.Abs
