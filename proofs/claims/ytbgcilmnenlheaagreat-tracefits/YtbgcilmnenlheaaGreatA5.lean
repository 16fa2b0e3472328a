/- Regions whose order is drawn: on what an operation depends. -/
import Derived.Test.YtbgcilmnenlheaaGreatA4
import Derived.Laws.LoneSync
import Derived.Laws.Externs
set_option linter.unusedSimpArgs false
set_option linter.unusedVariables false
namespace Go.Abs
open Go
variable {P : Program}

def opnds (o : Op) : List Operand :=
  match o with
  | .move x | .assign x | .box _ x | .load _ x | .nilCheck x | .unOp _ _ x | .convert _ _ x | .fieldAddr _ x _ | .field _ x _ | .extract x _ => [x]
  | .pick c a b => [c, a, b]
  | .build _ ps | .buildSlice _ _ ps => ps.toList.map (·.2)
  | .store _ x y | .binOp _ _ x y _ | .makeSlice _ x y | .indexAddr _ x y | .index _ x y | .lookup _ x y _ => [x, y]
  | .makeFunc _ a c => a.toList ++ c.toList
  | .slice _ x lo hi mx => x :: (lo.toList ++ hi.toList ++ mx.toList)
  | .mapUpdate _ m k v | .insert _ m k v => [m, k, v]
  | .call c => (match c.callee with | .value f => [f] | _ => []) ++ c.args.toList
  | _ => []

theorem evList_congr {ρ ρ' : Operand → Option Value} : ∀ {l : List Operand}, (∀ x ∈ l, ρ x = ρ' x) → evList ρ l = evList ρ' l
  | [], _ => rfl
  | x :: r, h => by
    simp only [evList]
    rw [h x (by simp), evList_congr fun y hy => h y (by simp [hy])]
theorem evParts_congr {ρ ρ' : Operand → Option Value} : ∀ {l : List (Nat × Operand)}, (∀ x ∈ l.map (·.2), ρ x = ρ' x) → evParts ρ l = evParts ρ' l
  | [], _ => rfl
  | (i, x) :: r, h => by
    simp only [evParts]
    rw [h x (by simp), evParts_congr fun y hy => h y (by simp at hy ⊢; exact .inr hy)]
theorem evOpt_congr {ρ ρ' : Operand → Option Value} {l : Option Operand} (h : ∀ x ∈ l.toList, ρ x = ρ' x) : evOpt ρ l = evOpt ρ' l := by
  cases l with
  | none => rfl
  | some x => simp only [evOpt]; rw [h x (by simp)]

theorem aop_congr {E : Env P} {o : Oper} {ρ ρ' : Operand → Option Value} {A : AHeap} (h : ∀ x ∈ opnds o.op, ρ x = ρ' x) : aop E o ρ A = aop E o ρ' A := by
  unfold aop
  generalize o.op = op at h
  cases op
  case build t ps => simp only; rw [evParts_congr (by simpa [opnds] using h)]
  case buildSlice t n ps => simp only; rw [evParts_congr (by simpa [opnds] using h)]
  case makeFunc fn a c =>
    have h1 := evList_congr (ρ := ρ) (ρ' := ρ') (l := a.toList) fun x hx => h x (by simp only [opnds, List.mem_append]; exact .inl hx)
    have h2 := evList_congr (ρ := ρ) (ρ' := ρ') (l := c.toList) fun x hx => h x (by simp only [opnds, List.mem_append]; exact .inr hx)
    cases fn <;> simp only [h1, h2]
  case slice t x lo hi mx =>
    have h0 := h x (by simp [opnds])
    have h1 := evOpt_congr (ρ := ρ) (ρ' := ρ') (l := lo) fun x hx => h x (by simp only [opnds, List.mem_append, List.mem_cons]; exact .inr (.inl (.inl hx)))
    have h2 := evOpt_congr (ρ := ρ) (ρ' := ρ') (l := hi) fun x hx => h x (by simp only [opnds, List.mem_append, List.mem_cons]; exact .inr (.inl (.inr hx)))
    have h3 := evOpt_congr (ρ := ρ) (ρ' := ρ') (l := mx) fun x hx => h x (by simp only [opnds, List.mem_append, List.mem_cons]; exact .inr (.inr hx))
    simp only [h0, h1, h2, h3]
  case makeMap t r => cases r <;> rfl
  case call c =>
    have h1 := evList_congr (ρ := ρ) (ρ' := ρ') (l := c.args.toList) fun x hx => h x (by simp only [opnds, List.mem_append]; exact .inr hx)
    simp only [h1]
  all_goals first
    | rfl
    | (simp only [opnds, List.mem_cons, List.not_mem_nil, or_false, forall_eq_or_imp, forall_eq] at h
       simp only [h])
    | (simp only [opnds, List.mem_cons, List.not_mem_nil, or_false, forall_eq_or_imp, forall_eq] at h
       obtain ⟨h1, h2⟩ := h
       simp only [h1, h2])
    | (simp only [opnds, List.mem_cons, List.not_mem_nil, or_false, forall_eq_or_imp, forall_eq] at h
       obtain ⟨h1, h2, h3⟩ := h
       simp only [h1, h2, h3])

/-- It looks at no heap. -/
def isPure (E : Env P) (o : Op) : Bool :=
  match o with
  | .move _ | .assign _ | .pick _ _ _ | .build _ _ | .nilCheck _ | .binOp _ _ _ _ _ | .unOp _ _ _ | .makeFunc _ _ _ | .fieldAddr _ _ _ | .field _ _ _ | .indexAddr _ _ _ | .index _ _ _ | .extract _ _ => true
  | .convert _ d _ => match E.und d with
    | some (.int _) => true
    | _ => false
  | _ => false
/-- It leaves the heap as it is. -/
def isRead (o : Op) : Bool :=
  match o with
  | .load _ _ | .lookup _ _ _ _ | .slice _ _ _ _ _ | .convert _ _ _ => true
  | .call c => match c.callee with
    | .builtin .len | .builtin .cap | .builtin .min | .builtin .max => true
    | _ => false
  | _ => false
/-- It makes one object. -/
def isNew (o : Op) : Bool :=
  match o with
  | .alloc _ | .box _ _ | .buildSlice _ _ _ | .makeMap _ _ | .makeSlice _ _ _ => true
  | _ => false

theorem aop_read {E : Env P} {o : Oper} {ρ : Operand → Option Value} {A A' : AHeap} {v : Value} (hr : isRead o.op = true) (h : aop E o ρ A = some (v, A')) : A' = A := by
  unfold aop at h
  generalize o.op = op at h hr
  cases op <;> simp only [isRead] at hr <;> try (cases hr; done)
  case call c =>
    simp only at h
    cases hc : c.callee with
    | builtin b =>
      rw [hc] at h hr
      simp only at h hr
      cases b <;> simp only at hr <;> try (cases hr; done)
      all_goals
        (split at h
         · unfold aBuiltin at h
           split at h <;> first
             | (cases h; done)
             | contradiction
             | (obtain ⟨_, _, e⟩ := Option.map_eq_some_iff.1 h; cases e; rfl)
         · cases h)
    | _ => rw [hc] at hr; cases hr
  all_goals
    (simp only at h
     repeat' (first | (cases h; done) | (cases h; rfl; done) | split at h))

theorem aop_pure {E : Env P} {o : Oper} {ρ : Operand → Option Value} {A A' : AHeap} {v : Value} (hr : isPure E o.op = true) (h : aop E o ρ A = some (v, A')) : A' = A ∧ ∀ B, aop E o ρ B = some (v, B) := by
  unfold aop at h ⊢
  generalize o.op = op at h hr
  cases op <;> simp only [isPure] at hr <;> try (cases hr; done)
  case convert s d x =>
    split at hr
    · rename_i k hd
      simp only at h ⊢
      split at h
      · rename_i p hp
        split at h
        · rename_i v' hv
          cases h
          refine ⟨rfl, fun B => ?_⟩
          have : aConvert E s d p B = some v := by
            unfold aConvert at hv ⊢
            rw [hd] at hv ⊢
            split at hv <;> first | (cases hv; done) | (rename_i e; cases e; done) | skip
            all_goals first | exact hv | (rename_i e _; cases e; done) | (rename_i e _ _; cases e; done)
          rw [this]
        · cases h
      · cases h
    · cases hr
  case makeFunc fn a c =>
    cases fn <;> try (cases h; done)
    simp only at h ⊢
    repeat' (first | (cases h; done) | (cases h; exact ⟨rfl, fun B => by simp_all⟩) | split at h)
  all_goals
    (simp only at h ⊢
     repeat' (first | (cases h; done) | (cases h; exact ⟨rfl, fun B => by simp_all⟩) | split at h))

/-- What makes one object makes it on any heap. -/
theorem aop_new {E : Env P} {o : Oper} {ρ : Operand → Option Value} {A A' : AHeap} {v : Value} (hr : isNew o.op = true) (h : aop E o ρ A = some (v, A')) :
    ∃ ob, A' = A.push ob ∧ ∀ B : AHeap, B.next = A.next → aop E o ρ B = some (v, B.push ob) := by
  unfold aop at h ⊢
  generalize o.op = op at h hr
  cases op <;> simp only [isNew] at hr <;> try (cases hr; done)
  case alloc t =>
    simp only [aAlloc] at h ⊢
    repeat' (first | (cases h; done) | (cases h; exact ⟨_, rfl, fun B hB => by simp_all⟩) | split at h)
  case box t x =>
    simp only [aBox] at h ⊢
    repeat' (first | (cases h; done) | (cases h; exact ⟨_, rfl, fun B hB => by simp_all⟩) | split at h)
  case buildSlice t n ps =>
    simp only [aBuildSlice] at h ⊢
    repeat' (first | (cases h; done) | (cases h; exact ⟨_, rfl, fun B hB => by simp_all⟩) | split at h)
  case makeMap t r =>
    cases r with
    | none => simp only at h ⊢; cases h; exact ⟨_, rfl, fun B hB => by rw [hB]⟩
    | some x => cases h
  case makeSlice t x y =>
    simp only [aMakeSlice] at h ⊢
    repeat' (first | (cases h; done) | (cases h; exact ⟨_, rfl, fun B hB => by simp_all⟩) | split at h)
end Go.Abs

/- Regions whose order is drawn: what stands ahead of what. -/
namespace Go.Abs
open Go

def maskOf (acc : T Nat) : List Edge → Nat → Nat
  | [], m => m
  | e :: r, m => maskOf acc r (bif Region.binds .any e then m ||| (1 <<< e.on ||| (acc.get e.on).getD 0) else m)
def masks : List Oper → Nat → T Nat → T Nat
  | [], _, acc => acc
  | o :: r, i, acc => masks r (i + 1) (acc.set i (maskOf acc o.after.toList 0))

theorem maskOf_ok {ops : Array Oper} {acc : T Nat} {i : Nat} (hacc : ∀ j m, acc.get j = some m → ∀ k, m.testBit k = true → Pre ops k j) : ∀ (es : List Edge) (m : Nat),
    (∀ e ∈ es, Region.binds .any e = true → Pre ops e.on i) → (∀ k, m.testBit k = true → Pre ops k i) → ∀ k, (maskOf acc es m).testBit k = true → Pre ops k i
  | [], m, _, hm => hm
  | e :: r, m, he, hm => by
    refine maskOf_ok hacc r _ (fun e' h' => he e' (by simp [h'])) ?_
    intro k hk
    cases hb : Region.binds .any e with
    | false => rw [hb] at hk; exact hm k hk
    | true =>
      rw [hb] at hk
      simp only [cond_true, Nat.testBit_or, Bool.or_eq_true] at hk
      have h1 := he e (by simp) hb
      rcases hk with hk | hk | hk
      · exact hm k hk
      · rw [Nat.one_shiftLeft, Nat.testBit_two_pow] at hk
        simp at hk
        rw [← hk]; exact h1
      · cases hg : acc.get e.on with
        | none => rw [hg] at hk; simp at hk
        | some m' =>
          rw [hg] at hk
          exact .trans (hacc _ _ hg k hk) h1

theorem masks_ok {ops : Array Oper} : ∀ (l : List Oper) (i : Nat) (acc : T Nat), ops.toList.drop i = l → (∀ j m, acc.get j = some m → ∀ k, m.testBit k = true → Pre ops k j) →
    ∀ j m, (masks l i acc).get j = some m → ∀ k, m.testBit k = true → Pre ops k j
  | [], i, acc, _, h => h
  | o :: r, i, acc, hd, h => by
    obtain ⟨ho, hd'⟩ := drop_cons hd
    refine masks_ok r (i + 1) _ hd' ?_
    intro j m hj
    rw [T.get_set] at hj
    by_cases e : j = i
    · subst e
      rw [if_pos rfl] at hj
      cases hj
      refine maskOf_ok h _ _ (fun e he hb => .edge ?_) (by simp)
      have hD : ops.getD j default = o := by
        have := ho
        simp only [Array.getD_eq_getD_getElem?, this, Option.getD_some]
      unfold edgeOn
      rw [hD, Array.any_eq_true]
      obtain ⟨n, hn, he⟩ := Array.getElem_of_mem (by simpa using he : e ∈ o.after)
      exact ⟨n, hn, by rw [he]; simp [hb]⟩
    · rw [if_neg e] at hj; exact h j m hj
end Go.Abs

/- Regions whose order is drawn: the plan, the run. -/
namespace Go.Abs
open Go
noncomputable section
variable {P : Program}

def isCallV (o : Op) : Bool := match o with
  | .call c => match c.callee with
    | .value _ => true
    | _ => false
  | _ => false
def isDefer (o : Op) : Bool := match o with
  | .defer _ => true
  | _ => false
/-- k is ahead of i in every order -/
def bitOf (ms : T Nat) (k i : Nat) : Bool := ((ms.get i).getD 0).testBit k
def isT (t : Tmp) : Option Tmp → Bool
  | some d => Nat.beq d t
  | none => false

/-- Each that writes a temporary, from the i-th on. -/
def writers : List Oper → Tmp → Nat → List Nat
  | [], _, _ => []
  | o :: r, t, i => bif isT t o.dst then i :: writers r t (i + 1) else writers r t (i + 1)

def opndOk (ops : List Oper) (ms : T Nat) (i : Nat) : Operand → Bool
  | .tmp t => (writers ops t 0).all fun k => (Nat.blt k i && bitOf ms k i) || (Nat.ble i k && (bitOf ms i k || Nat.beq k i))
  | _ => true
def opndEarly (ops : List Oper) (i : Nat) : Operand → Bool
  | .tmp t => (writers ops t 0).all fun k => Nat.blt k i
  | _ => true

/-- Those ahead of the i-th that make objects are ahead of it in every order. -/
def makersAhead (ms : T Nat) (m i : Nat) : List Oper → Nat → Bool
  | [], _ => true
  | o :: r, k => (!(Nat.blt k i && Nat.blt k m && (isNew o.op || isCallV o.op)) || bitOf ms k i) && makersAhead ms m i r (k + 1)

def tagOf (E : Env P) (ops : List Oper) (ms : T Nat) (m i : Nat) (o : Oper) : Nat :=
  bif Nat.ble m i then 4 else bif isPure E o.op then 0 else bif isNew o.op then 1 else bif isRead o.op then (bif makersAhead ms m i ops 0 then 2 else 5) else bif isCallV o.op && makersAhead ms m i ops 0 then 3 else 9

def steadyAt (ms : T Nat) (m n i : Nat) : Bool := Nat.blt i m && Nat.blt m n && !bitOf ms i m

def gcFree (e : Edge) : Bool := match e.ground with
  | .gcOnly _ => true
  | _ => false
/-- Each edge points back. -/
def allLow : List Oper → Nat → Bool
  | [], _ => true
  | o :: r, i => o.after.toList.all (fun e => Nat.blt e.on i) && allLow r (i + 1)
def posOf : List Nat → Nat → Nat
  | [], _ => 0
  | k :: r, i => bif Nat.beq k i then 0 else Nat.succ (posOf r i)
def gcMask : List Edge → Nat → Nat
  | [], m => m
  | e :: r, m => gcMask r (bif Region.binds .gc e then m ||| (1 <<< e.on) else m)
def pickFirst (placed : Nat) : List (Nat × Nat) → Option (Nat × List (Nat × Nat))
  | [] => none
  | (i, m) :: r => bif Nat.beq (m &&& placed) m then some (i, r) else match pickFirst placed r with
    | none => none
    | some (j, r') => some (j, (i, m) :: r')
def gcOrd : Nat → List (Nat × Nat) → Nat → List Nat
  | 0, _, _ => []
  | f + 1, l, placed => match pickFirst placed l with
    | none => []
    | some (i, r) => i :: gcOrd f r (placed ||| (1 <<< i))
def gcPairs : List Oper → Nat → List (Nat × Nat)
  | [], _ => []
  | o :: r, i => (i, gcMask o.after.toList 0) :: gcPairs r (i + 1)
/-- In an order: each behind those that it is after where the other compiler's order is taken. -/
def gcOk (ord : List Nat) (n : Nat) : List Oper → Nat → Bool
  | [], _ => true
  | o :: r, i => o.after.toList.all (fun e => !Region.binds .gc e || (Nat.blt e.on n && Nat.blt (posOf ord e.on) (posOf ord i))) && gcOk ord n r (i + 1)
def edgesOk (ops : List Oper) (n : Nat) : Bool := allLow ops 0 || gcOk (gcOrd n (gcPairs ops 0) 0) n ops 0

def opOk (E : Env P) (ops : List Oper) (ms : T Nat) (m n i : Nat) (o : Oper) : Bool :=
  o.after.toList.all (fun e => gcFree e || Nat.blt e.on i) &&
  (match o.dst with | none => true | some t => match writers ops t 0 with | [k] => Nat.beq k i | _ => false) &&
  (opnds o.op).all (opndOk ops ms i) &&
  (match o.guard with | none => true | some (j, _) => Nat.blt j i && bitOf ms j i && (match (ops[j]?).bind (·.dst) with | some _ => true | none => false)) &&
  !isDefer o.op &&
  !Nat.beq (tagOf E ops ms m i o) 9 &&
  (!(Nat.ble m i && Nat.blt (i + 1) n) || bitOf ms i (i + 1)) &&
  (!steadyAt ms m n i || Nat.beq (tagOf E ops ms m i o) 0 || (isRead o.op && (match o.guard with | none => true | some _ => false) && (opnds o.op).all (opndEarly ops i)))

def opsOk (E : Env P) (ops : List Oper) (ms : T Nat) (m n : Nat) : List Oper → Nat → Bool
  | [], _ => true
  | o :: r, i => opOk E ops ms m n i o && opsOk E ops ms m n r (i + 1)

def planOk (E : Env P) (ops : Array Oper) (m : Nat) : Bool :=
  edgesOk ops.toList ops.size && Nat.ble m ops.size && opsOk E ops.toList (masks ops.toList 0 .e) m ops.size ops.toList 0
def tagsOf (E : Env P) (ops : List Oper) (ms : T Nat) (m : Nat) : List Oper → Nat → List Nat
  | [], _ => []
  | o :: r, i => tagOf E ops ms m i o :: tagsOf E ops ms m r (i + 1)
/-- Those to be run again on each of the later heaps. -/
def againOf (E : Env P) (ops : List Oper) (ms : T Nat) (m n : Nat) : List Oper → Nat → List Oper
  | [], _ => []
  | o :: r, i => bif steadyAt ms m n i && !Nat.beq (tagOf E ops ms m i o) 0 then o :: againOf E ops ms m n r (i + 1) else againOf E ops ms m n r (i + 1)

theorem opsOk_of {E : Env P} {ops : List Oper} {ms : T Nat} {m n : Nat} : ∀ {l : List Oper} {i : Nat}, opsOk E ops ms m n l i = true → ∀ k o, l[k]? = some o → opOk E ops ms m n (i + k) o = true
  | [], i, _, k, o, h => by simp at h
  | o' :: r, i, h, k, o, hk => by
    simp only [opsOk, Bool.and_eq_true] at h
    cases k with
    | zero => simp at hk; subst hk; exact h.1
    | succ k =>
      have := opsOk_of h.2 k o (by simpa using hk)
      rw [show i + (k + 1) = i + 1 + k from by omega]; exact this
theorem writers_of : ∀ {l : List Oper} {t : Tmp} {i k : Nat} {o : Oper}, l[k]? = some o → o.dst = some t → (i + k) ∈ writers l t i
  | [], t, i, k, o, h, _ => by simp at h
  | o' :: r, t, i, k, o, h, hd => by
    cases k with
    | zero =>
      simp at h; subst h
      have : isT t o'.dst = true := by rw [hd]; simp [isT]
      simp [writers, this]
    | succ k =>
      have := writers_of (i := i + 1) (t := t) (l := r) (k := k) (by simpa using h) hd
      rw [show i + (k + 1) = i + 1 + k from by omega]
      simp only [writers]
      cases isT t o'.dst <;> simp [this]
theorem makersAhead_of {ms : T Nat} {m i : Nat} : ∀ {l : List Oper} {k0 : Nat}, makersAhead ms m i l k0 = true → ∀ k o, l[k]? = some o → k0 + k < i → k0 + k < m → (isNew o.op = true ∨ isCallV o.op = true) → bitOf ms (k0 + k) i = true
  | [], k0, _, k, o, h => by simp at h
  | o' :: r, k0, h, k, o, hk => by
    simp only [makersAhead, Bool.and_eq_true, Bool.or_eq_true, Bool.not_eq_true'] at h
    cases k with
    | zero =>
      simp at hk; subst hk
      intro h1 h2 h3
      rcases h.1 with h4 | h4
      · have e1 : Nat.blt k0 i = true := Nat.ble_eq_true_of_le h1
        have e2 : Nat.blt k0 m = true := Nat.ble_eq_true_of_le h2
        rw [e1, e2] at h4
        rcases h3 with h3 | h3 <;> simp [h3] at h4
      · exact h4
    | succ k =>
      have := makersAhead_of h.2 k o (by simpa using hk)
      rw [show k0 + (k + 1) = k0 + 1 + k from by omega]; exact this
theorem tagsOf_get {E : Env P} {ops : List Oper} {ms : T Nat} {m : Nat} : ∀ {l : List Oper} {i k : Nat} {o : Oper}, l[k]? = some o → (tagsOf E ops ms m l i)[k]? = some (tagOf E ops ms m (i + k) o)
  | [], i, k, o, h => by simp at h
  | o' :: r, i, k, o, h => by
    cases k with
    | zero => simp at h; subst h; simp [tagsOf]
    | succ k =>
      have := tagsOf_get (E := E) (ops := ops) (ms := ms) (m := m) (i := i + 1) (l := r) (k := k) (by simpa using h)
      simp only [tagsOf, List.getElem?_cons_succ]
      rw [this]; congr 2; omega
theorem againOf_mem {E : Env P} {ops : List Oper} {ms : T Nat} {m n : Nat} : ∀ {l : List Oper} {i k : Nat} {o : Oper}, l[k]? = some o → steadyAt ms m n (i + k) = true → tagOf E ops ms m (i + k) o ≠ 0 → o ∈ againOf E ops ms m n l i
  | [], i, k, o, h, _, _ => by simp at h
  | o' :: r, i, k, o, h, h1, h2 => by
    cases k with
    | zero =>
      simp at h; subst h
      have : Nat.beq (tagOf E ops ms m i o') 0 = false := by
        cases hb : Nat.beq (tagOf E ops ms m i o') 0 with
        | false => rfl
        | true => exact absurd (Nat.eq_of_beq_eq_true hb) (by simpa using h2)
      simp only [Nat.add_zero] at h1
      simp [againOf, h1, this]
    | succ k =>
      have := againOf_mem (E := E) (ops := ops) (ms := ms) (m := m) (n := n) (i := i + 1) (l := r) (k := k) (by simpa using h)
        (by rw [show i + 1 + k = i + (k + 1) from by omega]; exact h1) (by rw [show i + 1 + k = i + (k + 1) from by omega]; exact h2)
      simp only [againOf]
      cases steadyAt ms m n i && !Nat.beq (tagOf E ops ms m i o') 0 <;> simp [this]

theorem allLow_of : ∀ {l : List Oper} {i : Nat}, allLow l i = true → ∀ k o, l[k]? = some o → ∀ e ∈ o.after, e.on < i + k
  | [], i, _, k, o, h => by simp at h
  | o' :: r, i, h, k, o, hk => by
    simp only [allLow, Bool.and_eq_true, List.all_eq_true] at h
    cases k with
    | zero =>
      simp at hk; subst hk
      exact fun e he => Nat.lt_of_succ_le (Nat.le_of_ble_eq_true (h.1 e (by simpa using he)))
    | succ k =>
      have := allLow_of h.2 k o (by simpa using hk)
      rw [show i + (k + 1) = i + 1 + k from by omega]; exact this
theorem gcOk_of {ord : List Nat} {n : Nat} : ∀ {l : List Oper} {i : Nat}, gcOk ord n l i = true → ∀ k o, l[k]? = some o → ∀ e ∈ o.after, Region.binds .gc e = true → e.on < n ∧ posOf ord e.on < posOf ord (i + k)
  | [], i, _, k, o, h => by simp at h
  | o' :: r, i, h, k, o, hk => by
    simp only [gcOk, Bool.and_eq_true, List.all_eq_true] at h
    cases k with
    | zero =>
      simp at hk; subst hk
      intro e he hb
      have := h.1 e (by simpa using he)
      rw [hb] at this
      simp only [Bool.not_true, Bool.false_or, Bool.and_eq_true] at this
      exact ⟨Nat.lt_of_succ_le (Nat.le_of_ble_eq_true this.1), Nat.lt_of_succ_le (Nat.le_of_ble_eq_true this.2)⟩
    | succ k =>
      have := gcOk_of h.2 k o (by simpa using hk)
      rw [show i + (k + 1) = i + 1 + k from by omega]; exact this
theorem getD_some {ops : Array Oper} {i : Nat} (h : i < ops.size) : ops.toList[i]? = some (ops.getD i default) := by
  rw [Array.getElem?_toList, Array.getElem?_eq_getElem h]; simp [Array.getD, h]
theorem edgesOk_low {ops : Array Oper} (h : edgesOk ops.toList ops.size = true) (ht : ∀ i, i < ops.size → ∀ e ∈ (ops.getD i default).after, gcFree e = false → e.on < i) : lowEdges ops := by
  intro m
  by_cases hm : m = .gc
  · subst hm
    rcases Bool.or_eq_true_iff.1 h with h1 | h1
    · refine ⟨fun i => i, fun i hi e he _ => ?_⟩
      have := allLow_of h1 i _ (getD_some hi) e he
      rw [Nat.zero_add] at this
      exact ⟨by omega, this⟩
    · refine ⟨posOf (gcOrd ops.size (gcPairs ops.toList 0) 0), fun i hi e he hb => ?_⟩
      have := gcOk_of h1 i _ (getD_some hi) e he hb
      rw [Nat.zero_add] at this
      exact this
  · refine ⟨fun i => i, fun i hi e he hb => ?_⟩
    have : gcFree e = false := by
      unfold Region.binds at hb
      unfold gcFree
      split at hb
      · rename_i hg; rw [hg]
      · cases m <;> simp at hm hb
      · rename_i h1 h2
        split
        · rename_i hg; exact absurd hg (h2 _)
        · rfl
    have := ht i hi e he this
    exact ⟨by omega, this⟩

end
end Go.Abs

/- Regions whose order is drawn: the run. -/
namespace Go.Abs
open Go
noncomputable section
variable {P : Program}

def vSame1 (a b : Value) : Bool :=
  match a, b with
  | .bool a, .bool b => decide (a = b)
  | .int k n, .int k' n' => decide (n = n') && decide (k = k')
  | .string a, .string b => decide (a.data.toList = b.data.toList)
  | .pointer a, .pointer b => decide (a = b)
  | .slice a l c, .slice a' l' c' => decide (a = a') && Nat.beq l l' && Nat.beq c c'
  | .map a, .map b => decide (a = b)
  | .nilFunc, .nilFunc => true
  | .nilIface, .nilIface => true
  | _, _ => false
def vSames : List Value → List Value → Bool
  | [], [] => true
  | a :: r, b :: r' => vSame1 a b && vSames r r'
  | _, _ => false
def vSame (a b : Value) : Bool :=
  match a, b with
  | .agg ⟨l⟩, .agg ⟨l'⟩ => vSames l l'
  | a, b => vSame1 a b
theorem vSame1_eq {a b : Value} (h : vSame1 a b = true) : a = b := by
  unfold vSame1 at h
  split at h
  · simp at h; rw [h]
  · simp at h; rw [h.1, h.2]
  · simp only [decide_eq_true_eq] at h
    rename_i a b
    obtain ⟨⟨a⟩⟩ := a
    obtain ⟨⟨b⟩⟩ := b
    simp only at h
    rw [h]
  · simp at h; rw [h]
  · simp only [Bool.and_eq_true, decide_eq_true_eq] at h
    rw [h.1.1, Nat.eq_of_beq_eq_true h.1.2, Nat.eq_of_beq_eq_true h.2]
  · simp at h; rw [h]
  · rfl
  · rfl
  · cases h
theorem vSames_eq : ∀ {a b : List Value}, vSames a b = true → a = b
  | [], [], _ => rfl
  | a :: r, b :: r', h => by
    simp only [vSames, Bool.and_eq_true] at h
    rw [vSame1_eq h.1, vSames_eq h.2]
  | [], _ :: _, h => by cases h
  | _ :: _, [], h => by cases h
theorem vSame_eq {a b : Value} (h : vSame a b = true) : a = b := by
  unfold vSame at h
  split at h
  · rw [vSames_eq h]
  · exact vSame1_eq h

/-- Those of a list tell the same on this heap. -/
def againK (E : Env P) (app : App) (c : Ctx) (ag : List Oper) : T Value → AHeap → Bool → Bool :=
  List.rec (motive := fun _ => T Value → AHeap → Bool → Bool) (fun _ _ K => K)
    (fun o _ ih tm A K => Option.rec (motive := fun _ => Bool) false (fun d =>
      hOp o.op E o app c tm A fun _ tm' _ => Bool.rec (motive := fun _ => Bool) false (ih tm A K) (vSame ((tm'.get d).getD undef) ((tm.get d).getD undef))) o.dst) ag

def AgainOk (E : Env P) (tm : T Value) (A : AHeap) (o : Oper) : Prop :=
  isRead o.op = true → ∃ d, o.dst = some d ∧ aop E o (opE tm) A = some ((tm.get d).getD undef, A)

theorem isRead_call {o : Oper} {ca : Call} {f : Operand} (h : isRead o.op = true) (ho : o.op = .call ca) (hc : ca.callee = .value f) : False := by
  rw [ho] at h; simp [isRead, hc] at h
theorem againK_of {E : Env P} {X : Ext0} {app : App} {c : Ctx} (happ : AppOk E X app) : ∀ {ag : List Oper} {tm : T Value} {A : AHeap} {K : Bool}, againK E app c ag tm A K = true → WF A →
    (∀ o ∈ ag, AgainOk E tm A o) ∧ K = true
  | [], tm, A, K, h, hw => ⟨fun _ h => (by cases h), h⟩
  | o :: r, tm, A, K, h, hw => by
    have h' : Option.rec (motive := fun _ => Bool) false (fun d =>
      hOp o.op E o app c tm A fun _ tm' _ => Bool.rec (motive := fun _ => Bool) false (againK E app c r tm A K) (vSame ((tm'.get d).getD undef) ((tm.get d).getD undef))) o.dst = true := h
    obtain ⟨d, hd, h1⟩ := orec_false h'
    have fin : ∀ {c' : Ctx} {tm' : T Value} {A' : AHeap}, (fun (_ : Ctx) (tm' : T Value) (_ : AHeap) => Bool.rec (motive := fun _ => Bool) false (againK E app c r tm A K) (vSame ((tm'.get d).getD undef) ((tm.get d).getD undef))) c' tm' A' = true →
        (tm'.get d).getD undef = (tm.get d).getD undef ∧ (∀ o ∈ r, AgainOk E tm A o) ∧ K = true := by
      intro c' tm' A' h
      obtain ⟨h1, h2⟩ := brec_false h
      exact ⟨vSame_eq h1, againK_of happ h2 hw⟩
    cases hOp_of happ hw h1 with
    | aop h2 =>
      obtain ⟨v, A', ha, h3⟩ := h2
      obtain ⟨tm', hp, h4⟩ := done_of h3
      obtain ⟨e, hr, hk⟩ := fin (c' := c) (A' := A) h4
      refine ⟨fun o' ho' => ?_, hk⟩
      rcases List.mem_cons.1 ho' with rfl | ho'
      · intro hrd
        have := aop_read hrd ha
        subst this
        refine ⟨d, hd, ?_⟩
        rw [ha, ← e]
        rw [hd] at hp
        simp only [putT] at hp
        split at hp
        · cases hp; rw [T.get_set, if_pos rfl]; rfl
        · cases hp
      · exact hr o' ho'
    | call ho hc hf ha hi hl hd' =>
      obtain ⟨tm', hp, h4⟩ := done_of hd'
      obtain ⟨e, hr, hk⟩ := fin (c' := c) (A' := A) h4
      refine ⟨fun o' ho' => ?_, hk⟩
      rcases List.mem_cons.1 ho' with rfl | ho'
      · exact fun hrd => (isRead_call hrd ho hc).elim
      · exact hr o' ho'
    | defer hrd ho hc hf ha hd' =>
      obtain ⟨tm', hp, h4⟩ := done_of hd'
      obtain ⟨e, hr, hk⟩ := fin (c' := c) (A' := A) h4
      refine ⟨fun o' ho' => ?_, hk⟩
      rcases List.mem_cons.1 ho' with rfl | ho'
      · intro hrd'; rw [ho] at hrd'; cases hrd'
      · exact hr o' ho'

/-- One operation, wanted, of a tag. -/
def tagK (E : Env P) (app : App) (c : Ctx) (A0 : AHeap) (g : Nat) (o : Oper) (tm : T Value) (A : AHeap) (K : T Value → AHeap → Bool) : Bool :=
  Bool.rec (motive := fun _ => Bool)
    (Bool.rec (motive := fun _ => Bool)
      (hOp o.op E o app c tm A fun _ tm A => K tm A)
      (AHeap.rec (motive := fun _ => Bool) (fun t n l => hOp o.op E o app c tm ⟨t, n, n⟩ fun _ tm B => AHeap.rec (motive := fun _ => Bool) (fun t' n' l' => Bool.rec (motive := fun _ => Bool) false (K tm ⟨t', n', l⟩) (Nat.beq l' n)) B) A)
      (Nat.beq g 3))
    (hOp o.op E o app c tm A0 fun _ tm _ => K tm A)
    (Nat.beq g 5)
def stepK (E : Env P) (app : App) (c : Ctx) (ops : Array Oper) (A0 : AHeap) (g : Nat) (o : Oper) (tm : T Value) (A : AHeap) (K : T Value → AHeap → Bool) : Bool :=
  wantsK ops o tm (tagK E app c A0 g o tm A K) (done o c tm A (fun _ tm A => K tm A) undef)
def drun (E : Env P) (app : App) (c : Ctx) (ops : Array Oper) (A0 : AHeap) (ag : List Oper) (l : List (Nat × Oper)) : T Value → AHeap → (T Value → AHeap → Bool) → Bool :=
  List.rec (motive := fun _ => T Value → AHeap → (T Value → AHeap → Bool) → Bool) (fun tm A K => againK E app c ag tm A (K tm A))
    (fun p _ ih tm A K => Prod.rec (motive := fun _ => Bool) (fun g o => Bool.rec (motive := fun _ => Bool)
      (stepK E app c ops A0 g o tm A fun tm A => ih tm A K)
      (againK E app c ag tm A (stepK E app c ops A0 g o tm A fun tm A => ih tm A K)) (Nat.beq g 4)) p) l

structure Ev where
  Hs : AHeap
  He : AHeap
  val : Value
  W : Bool
  fv : Value
  args : List Value

def TagFit (E : Env P) (g : Nat) (o : Oper) : Prop :=
  (g = 0 ∧ isPure E o.op = true) ∨ (g = 1 ∧ isNew o.op = true) ∨ (g = 2 ∧ isRead o.op = true) ∨ (g = 3 ∧ isCallV o.op = true) ∨ (g = 4 ∧ isDefer o.op = false) ∨ (g = 5 ∧ isRead o.op = true)

structure StepOk (E : Env P) (X : Ext0) (c : Ctx) (ops : Array Oper) (A0 : AHeap) (ag : List Oper) (g : Nat) (o : Oper) (s : T Value) (B : AHeap) (r : Ev) (t : T Value) (C : AHeap) : Prop where
  low : Low B C
  put : putT c.n s o.dst r.val = some t
  wants : (c.st s).wants ops o = r.W
  un : r.W = false → r.val = undef ∧ r.He = r.Hs
  op : r.W = true → isCallV o.op = false → aop E o (opE s) r.Hs = some (r.val, r.He)
  call : r.W = true → isCallV o.op = true → ∃ ca f, o.op = .call ca ∧ ca.callee = .value f ∧ opE s f = some r.fv ∧ evList (opE s) ca.args.toList = some r.args ∧ BS E X (.app r.fv r.args r.Hs r.val r.He)
  grow : r.Hs.next ≤ r.He.next
  lat : g = 4 → r.Hs = B ∧ r.He = C ∧ ∀ o' ∈ ag, AgainOk E s B o'
  keep : g ≠ 4 → ∀ j, j < B.next → C.obj j = B.obj j
  hs : g ≠ 4 → (∀ j, r.Hs.obj j = A0.obj j) ∨ ((∀ j, r.Hs.obj j = B.obj j) ∧ (g = 2 ∨ g = 3))
  he : g ≠ 4 → ∀ j ob, r.He.obj j = some ob → A0.obj j = some ob ∨ C.obj j = some ob
  nexts : g ≠ 4 → (r.Hs.next = B.next ∧ r.He.next = C.next) ∨ (C.next = B.next ∧ r.He.next = A0.next ∧ r.Hs.next = A0.next)
  stays : g ≠ 4 → ∀ j ob, r.Hs.obj j = some ob → r.He.obj j = some ob
  made : g ≠ 4 → ∀ j ob, B.next ≤ j → C.obj j = some ob → r.He.obj j = some ob
  maker : g ≠ 4 → C.next ≠ B.next → isNew o.op = true ∨ isCallV o.op = true

theorem isNew_call {o : Oper} {ca : Call} (h : isNew o.op = true) (ho : o.op = .call ca) : False := by
  rw [ho] at h; cases h
theorem isPure_call {E : Env P} {o : Oper} {ca : Call} (h : isPure E o.op = true) (ho : o.op = .call ca) : False := by
  rw [ho] at h; cases h
theorem isCallV_of {o : Oper} {ca : Call} {f : Operand} (ho : o.op = .call ca) (hc : ca.callee = .value f) : isCallV o.op = true := by
  rw [ho]; simp only [isCallV, hc]
theorem isCallV_aop {E : Env P} {o : Oper} {ρ : Operand → Option Value} {A : AHeap} (h : isCallV o.op = true) : aop E o ρ A = none := by
  unfold isCallV at h
  split at h
  · rename_i ca ho
    split at h
    · rename_i f hc
      unfold aop; rw [ho]; simp only [hc]
    · cases h
  · cases h

theorem stepK_of {E : Env P} {X : Ext0} {app : App} {c : Ctx} {ops : Array Oper} {A0 : AHeap} {ag : List Oper} {g : Nat} {o : Oper} {s : T Value} {B : AHeap} {K : T Value → AHeap → Bool}
    (happ : AppOk E X app) (hf : TagFit E g o) (hn0 : A0.next ≤ B.next) (hw0 : WF A0) (h : stepK E app c ops A0 g o s B K = true) (hw : WF B)
    (hag : g = 4 → ∀ o' ∈ ag, AgainOk E s B o') :
    ∃ r t C, StepOk E X c ops A0 ag g o s B r t C ∧ K t C = true := by
  have h' : wantsK ops o s (tagK E app c A0 g o s B K) (done o c s B (fun _ tm A => K tm A) undef) = true := h
  rcases wantsK_of (c := c) h' with ⟨hwt, h1⟩ | ⟨hwt, h1⟩
  · rcases hf with ⟨rfl, hp⟩ | ⟨rfl, hp⟩ | ⟨rfl, hp⟩ | ⟨rfl, hp⟩ | ⟨rfl, hp⟩ | ⟨rfl, hp⟩
    · -- pure
      have h2 : hOp o.op E o app c s B (fun _ tm A => K tm A) = true := h1
      cases hOp_of happ hw h2 with
      | aop h3 =>
        obtain ⟨v, B', ha, h4⟩ := h3
        obtain ⟨t, hpt, hk⟩ := done_of h4
        obtain ⟨rfl, hall⟩ := aop_pure hp ha
        have hnc : isCallV o.op = false := by
          cases hb : isCallV o.op with
          | false => rfl
          | true => rw [isCallV_aop hb] at ha; cases ha
        exact ⟨⟨A0, A0, v, true, undef, []⟩, t, B', { low := Low.refl hw, put := hpt, wants := hwt, un := (by intro h; cases h), op := fun _ _ => hall A0, call := fun _ hc => (by rw [hnc] at hc; cases hc), grow := Nat.le_refl _, lat := (by intro h; cases h), keep := fun _ _ _ => rfl, hs := fun _ => .inl fun _ => rfl, he := fun _ j ob h => .inl h, nexts := fun _ => .inr ⟨rfl, rfl, rfl⟩, stays := fun _ _ _ h => h, made := fun _ j ob h1 h2 => (by rw [hw.none j h1] at h2; cases h2), maker := fun _ h => absurd rfl h }, hk⟩
      | call ho hc hf ha hi hl hd => exact (isPure_call hp ho).elim
      | defer hrd ho hc hf ha hd => rw [ho] at hp; cases hp
    · -- new
      have h2 : hOp o.op E o app c s B (fun _ tm A => K tm A) = true := h1
      cases hOp_of happ hw h2 with
      | aop h3 =>
        obtain ⟨v, B', ha, h4⟩ := h3
        obtain ⟨t, hpt, hk⟩ := done_of h4
        have hnc : isCallV o.op = false := by
          cases hb : isCallV o.op with
          | false => rfl
          | true => rw [isCallV_aop hb] at ha; cases ha
        obtain ⟨ob, rfl, hall⟩ := aop_new hp ha
        refine ⟨⟨⟨A0.t, B.next, B.lw⟩, (⟨A0.t, B.next, B.lw⟩ : AHeap).push ob, v, true, undef, []⟩, t, B.push ob, { low := hw.push' _, put := hpt, wants := hwt, un := (by intro h; cases h), op := fun _ _ => hall _ rfl, call := fun _ hc => (by rw [hnc] at hc; cases hc), grow := by simp, lat := (by intro h; cases h), keep := fun _ j hj => (by rw [AHeap.obj_push, if_neg (by omega)]), hs := fun _ => .inl fun _ => rfl, he := fun _ j ob' h => ?_, nexts := fun _ => .inl ⟨rfl, rfl⟩, stays := fun _ j ob' h => ?_, made := fun _ j ob' h1 h2 => ?_, maker := fun _ _ => .inl hp }, hk⟩
        · rw [AHeap.obj_push] at h
          by_cases e : j = B.next
          · rw [if_pos e] at h; cases h
            right; rw [AHeap.obj_push, if_pos e]
          · rw [if_neg e] at h; exact .inl h
        · have hj := hw0.lt (i := j) h
          rw [AHeap.obj_push, if_neg (by show j ≠ B.next; omega)]; exact h
        · rw [AHeap.obj_push] at h2 ⊢
          by_cases e : j = B.next
          · rw [if_pos e] at h2 ⊢; exact h2
          · rw [if_neg e, hw.none j h1] at h2; cases h2
      | call ho hc hf ha hi hl hd => exact (isNew_call hp ho).elim
      | defer hrd ho hc hf ha hd => rw [ho] at hp; cases hp
    · -- read
      have h2 : hOp o.op E o app c s B (fun _ tm A => K tm A) = true := h1
      cases hOp_of happ hw h2 with
      | aop h3 =>
        obtain ⟨v, B', ha, h4⟩ := h3
        obtain ⟨t, hpt, hk⟩ := done_of h4
        have hnc : isCallV o.op = false := by
          cases hb : isCallV o.op with
          | false => rfl
          | true => rw [isCallV_aop hb] at ha; cases ha
        have := aop_read hp ha
        subst this
        exact ⟨⟨B', B', v, true, undef, []⟩, t, B', { low := Low.refl hw, put := hpt, wants := hwt, un := (by intro h; cases h), op := fun _ _ => ha, call := fun _ hc => (by rw [hnc] at hc; cases hc), grow := Nat.le_refl _, lat := (by intro h; cases h), keep := fun _ _ _ => rfl, hs := fun _ => .inr ⟨fun _ => rfl, .inl rfl⟩, he := fun _ j ob h => .inr h, nexts := fun _ => .inl ⟨rfl, rfl⟩, stays := fun _ _ _ h => h, made := fun _ j ob h1 h2 => h2, maker := fun _ h => absurd rfl h }, hk⟩
      | call ho hc hf ha hi hl hd => exact (isRead_call hp ho hc).elim
      | defer hrd ho hc hf ha hd => rw [ho] at hp; cases hp
    · -- call
      obtain ⟨tB, nB, lB⟩ := B
      have h2 : hOp o.op E o app c s ⟨tB, nB, nB⟩ (fun _ tm B => AHeap.rec (motive := fun _ => Bool) (fun t' n' l' => Bool.rec (motive := fun _ => Bool) false (K tm ⟨t', n', lB⟩) (Nat.beq l' nB)) B) = true := h1
      have hw' : WF (⟨tB, nB, nB⟩ : AHeap) := ⟨Nat.le_refl _, hw.none⟩
      cases hOp_of happ hw' h2 with
      | aop h3 =>
        obtain ⟨v, B', ha, h4⟩ := h3
        rw [isCallV_aop hp] at ha; cases ha
      | call ho hc hf ha hi hl hd =>
        obtain ⟨t, hpt, hk0⟩ := done_of hd
        rename_i ca f fv args v A'
        obtain ⟨tC, nC, lC⟩ := A'
        have hk' : Bool.rec (motive := fun _ => Bool) false (K t ⟨tC, nC, lB⟩) (Nat.beq lC nB) = true := hk0
        obtain ⟨hlC, hk⟩ := brec_false hk'
        have hlC : lC = nB := Nat.eq_of_beq_eq_true hlC
        subst hlC
        have hsame : ∀ j, j < lC → (⟨tC, nC, lC⟩ : AHeap).obj j = (⟨tB, lC, lC⟩ : AHeap).obj j := hl.same
        have hnx : lC ≤ nC := hl.next
        have hlB : lB ≤ lC := hw.lw
        refine ⟨⟨⟨tB, lC, lC⟩, ⟨tC, nC, lC⟩, v, true, fv, args⟩, t, ⟨tC, nC, lB⟩, { low := ⟨⟨Nat.le_trans hlB hnx, hl.wf.none⟩, Nat.le_refl _, hnx, fun j hj => hsame j (Nat.lt_of_lt_of_le hj hlB)⟩, put := hpt, wants := hwt, un := (by intro h; cases h), op := fun _ hnc => (by rw [hp] at hnc; cases hnc), call := fun _ _ => ⟨ca, f, ho, hc, hf, ha, hi⟩, grow := hnx, lat := (by intro h; cases h), keep := fun _ j hj => hsame j hj, hs := fun _ => .inr ⟨fun _ => rfl, .inr rfl⟩, he := fun _ j ob h => .inr h, nexts := fun _ => .inl ⟨rfl, rfl⟩, stays := fun _ j ob h => ?_, made := fun _ j ob h1 h2 => h2, maker := fun _ _ => .inr hp }, hk⟩
        exact (hsame j (hw'.lt h)).trans h
      | defer hrd ho hc hf ha hd => rw [ho] at hp; cases hp
    · -- one of the latter ones
      have h2 : hOp o.op E o app c s B (fun _ tm A => K tm A) = true := h1
      cases hOp_of happ hw h2 with
      | aop h3 =>
        obtain ⟨v, B', ha, h4⟩ := h3
        obtain ⟨t, hpt, hk⟩ := done_of h4
        have hnc : isCallV o.op = false := by
          cases hb : isCallV o.op with
          | false => rfl
          | true => rw [isCallV_aop hb] at ha; cases ha
        have hl := aop_low ha hw
        exact ⟨⟨B, B', v, true, undef, []⟩, t, B', { low := hl, put := hpt, wants := hwt, un := (by intro h; cases h), op := fun _ _ => ha, call := fun _ hc => (by rw [hnc] at hc; cases hc), grow := hl.next, lat := fun h => ⟨rfl, rfl, hag h⟩, keep := fun h => absurd rfl h, hs := fun h => absurd rfl h, he := fun h => absurd rfl h, nexts := fun h => absurd rfl h, stays := fun h => absurd rfl h, made := fun h => absurd rfl h, maker := fun h => absurd rfl h }, hk⟩
      | call ho hc hf ha hi hl hd =>
        obtain ⟨t, hpt, hk⟩ := done_of hd
        rename_i ca f fv args v A'
        exact ⟨⟨B, A', v, true, fv, args⟩, t, A', { low := hl, put := hpt, wants := hwt, un := (by intro h; cases h), op := fun _ hnc => (by rw [isCallV_of ho hc] at hnc; cases hnc), call := fun _ _ => ⟨ca, f, ho, hc, hf, ha, hi⟩, grow := hl.next, lat := fun h => ⟨rfl, rfl, hag h⟩, keep := fun h => absurd rfl h, hs := fun h => absurd rfl h, he := fun h => absurd rfl h, nexts := fun h => absurd rfl h, stays := fun h => absurd rfl h, made := fun h => absurd rfl h, maker := fun h => absurd rfl h }, hk⟩
      | defer hrd ho hc hf ha hd => rw [ho] at hp; cases hp
    · -- read, on the first heap
      have h2 : hOp o.op E o app c s A0 (fun _ tm _ => K tm B) = true := h1
      cases hOp_of happ hw0 h2 with
      | aop h3 =>
        obtain ⟨v, B', ha, h4⟩ := h3
        obtain ⟨t, hpt, hk⟩ := done_of h4
        have hnc : isCallV o.op = false := by
          cases hb : isCallV o.op with
          | false => rfl
          | true => rw [isCallV_aop hb] at ha; cases ha
        have := aop_read hp ha
        subst this
        exact ⟨⟨B', B', v, true, undef, []⟩, t, B, { low := Low.refl hw, put := hpt, wants := hwt, un := (by intro h; cases h), op := fun _ _ => ha, call := fun _ hc => (by rw [hnc] at hc; cases hc), grow := Nat.le_refl _, lat := (by intro h; cases h), keep := fun _ _ _ => rfl, hs := fun _ => .inl fun _ => rfl, he := fun _ j ob h => .inl h, nexts := fun _ => .inr ⟨rfl, rfl, rfl⟩, stays := fun _ _ _ h => h, made := fun _ j ob h1 h2 => (by rw [hw.none j h1] at h2; cases h2), maker := fun _ h => absurd rfl h }, hk⟩
      | call ho hc hf ha hi hl hd => exact (isRead_call hp ho hc).elim
      | defer hrd ho hc hf ha hd => rw [ho] at hp; cases hp
  · obtain ⟨t, hpt, hk⟩ := done_of h1
    by_cases hg : g = 4
    · exact ⟨⟨B, B, undef, false, undef, []⟩, t, B, { low := Low.refl hw, put := hpt, wants := hwt, un := fun _ => ⟨rfl, rfl⟩, op := (by intro h; cases h), call := (by intro h; cases h), grow := Nat.le_refl _, lat := fun h => ⟨rfl, rfl, hag h⟩, keep := fun _ _ _ => rfl, hs := fun h => absurd hg h, he := fun h => absurd hg h, nexts := fun h => absurd hg h, stays := fun h => absurd hg h, made := fun h => absurd hg h, maker := fun h => absurd hg h }, hk⟩
    · exact ⟨⟨A0, A0, undef, false, undef, []⟩, t, B, { low := Low.refl hw, put := hpt, wants := hwt, un := fun _ => ⟨rfl, rfl⟩, op := (by intro h; cases h), call := (by intro h; cases h), grow := Nat.le_refl _, lat := fun h => absurd h hg, keep := fun _ _ _ => rfl, hs := fun _ => .inl fun _ => rfl, he := fun _ j ob h => .inl h, nexts := fun _ => .inr ⟨rfl, rfl, rfl⟩, stays := fun _ _ _ h => h, made := fun _ j ob h1 h2 => (by rw [hw.none j h1] at h2; cases h2), maker := fun _ h => absurd rfl h }, hk⟩

end
end Go.Abs

/- Regions whose order is drawn: what their run shows. -/
namespace Go.Abs
open Go
noncomputable section
variable {P : Program}

theorem drun_of {E : Env P} {X : Ext0} {app : App} {c : Ctx} {ops : Array Oper} {A0 : AHeap} {ag : List Oper} (happ : AppOk E X app) (hw0 : WF A0) :
    ∀ (l : List (Nat × Oper)) (s : T Value) (B : AHeap) (K : T Value → AHeap → Bool), drun E app c ops A0 ag l s B K = true → WF B → A0.next ≤ B.next → (∀ (k g : Nat) (o : Oper), l[k]? = some (g, o) → TagFit E g o) →
      ∃ (S : Nat → T Value) (H : Nat → AHeap) (R : Nat → Ev), S 0 = s ∧ H 0 = B ∧ (∀ (k g : Nat) (o : Oper), l[k]? = some (g, o) → StepOk E X c ops A0 ag g o (S k) (H k) (R k) (S (k + 1)) (H (k + 1))) ∧
        (∀ o' ∈ ag, AgainOk E (S l.length) (H l.length) o') ∧ K (S l.length) (H l.length) = true
  | [], s, B, K, h, hw, hn, ht => by
    obtain ⟨h1, h2⟩ := againK_of (K := K s B) happ h hw
    exact ⟨fun _ => s, fun _ => B, fun _ => ⟨B, B, undef, false, undef, []⟩, rfl, rfl, fun k g o h => by simp at h, h1, h2⟩
  | (g, o) :: l, s, B, K, h, hw, hn, ht => by
    have h' : Bool.rec (motive := fun _ => Bool)
      (stepK E app c ops A0 g o s B fun tm A => drun E app c ops A0 ag l tm A K)
      (againK E app c ag s B (stepK E app c ops A0 g o s B fun tm A => drun E app c ops A0 ag l tm A K)) (Nat.beq g 4) = true := h
    have hst : stepK E app c ops A0 g o s B (fun tm A => drun E app c ops A0 ag l tm A K) = true ∧ (g = 4 → ∀ o' ∈ ag, AgainOk E s B o') := by
      rcases brec_or h' with ⟨_, h1⟩ | ⟨hg, h1⟩
      · obtain ⟨h2, h3⟩ := againK_of happ h1 hw
        exact ⟨h3, fun _ => h2⟩
      · exact ⟨h1, fun e => absurd e (Nat.ne_of_beq_eq_false hg)⟩
    obtain ⟨r, t, C, hs, hk⟩ := stepK_of (X := X) happ (ht 0 g o rfl) hn hw0 hst.1 hw hst.2
    obtain ⟨S, H, R, hS, hH, h1, h2, h3⟩ := drun_of (X := X) happ hw0 l t C K hk hs.low.wf (Nat.le_trans hn hs.low.next) fun k g o h => ht (k + 1) g o (by simpa using h)
    refine ⟨fun k => Nat.casesOn k s S, fun k => Nat.casesOn k B H, fun k => Nat.casesOn k r R, rfl, rfl, fun k g' o' hk => ?_, h2, h3⟩
    cases k with
    | zero =>
      simp only [List.getElem?_cons_zero, Option.some.injEq, Prod.mk.injEq] at hk
      obtain ⟨rfl, rfl⟩ := hk
      show StepOk E X c ops A0 ag g o s B r (S 0) (H 0)
      rw [hS, hH]; exact hs
    | succ k => exact h1 k g' o' (by simpa using hk)

/-- The operations, and their tags. -/
def tagL (E : Env P) (ops : List Oper) (ms : T Nat) (m : Nat) : List Oper → Nat → List (Nat × Oper)
  | [], _ => []
  | o :: r, i => (tagOf E ops ms m i o, o) :: tagL E ops ms m r (i + 1)
theorem tagL_get {E : Env P} {ops : List Oper} {ms : T Nat} {m : Nat} : ∀ {l : List Oper} {i k : Nat}, (tagL E ops ms m l i)[k]? = (l[k]?).map fun o => (tagOf E ops ms m (i + k) o, o)
  | [], i, k => by simp [tagL]
  | o' :: r, i, k => by
    cases k with
    | zero => simp [tagL]
    | succ k =>
      have := tagL_get (E := E) (ops := ops) (ms := ms) (m := m) (i := i + 1) (k := k) (l := r)
      simp only [tagL, List.getElem?_cons_succ]
      rw [this]; congr 2; funext o; rw [show i + 1 + k = i + (k + 1) from by omega]
theorem tagL_length {E : Env P} {ops : List Oper} {ms : T Nat} {m : Nat} : ∀ {l : List Oper} {i : Nat}, (tagL E ops ms m l i).length = l.length
  | [], i => rfl
  | o' :: r, i => by simp only [tagL, List.length_cons]; rw [tagL_length]

theorem cond_cases {α : Type} {b : Bool} {x y z : α} (h : (bif b then x else y) = z) : (b = true ∧ x = z) ∨ (b = false ∧ y = z) := by cases b <;> simp_all

theorem tagOf_late {E : Env P} {ops : List Oper} {ms : T Nat} {m i : Nat} {o : Oper} (h : m ≤ i) : tagOf E ops ms m i o = 4 := by
  unfold tagOf
  rw [Nat.ble_eq_true_of_le h]; rfl
theorem tagOf_soon {E : Env P} {ops : List Oper} {ms : T Nat} {m i : Nat} {o : Oper} (h : i < m) {g : Nat} (hg : tagOf E ops ms m i o = g) :
    (g = 0 ∧ isPure E o.op = true) ∨ (g = 1 ∧ isNew o.op = true) ∨ (g = 2 ∧ isRead o.op = true ∧ makersAhead ms m i ops 0 = true) ∨ (g = 5 ∧ isRead o.op = true) ∨ (g = 3 ∧ isCallV o.op = true ∧ makersAhead ms m i ops 0 = true) ∨ g = 9 := by
  unfold tagOf at hg
  rcases cond_cases hg with ⟨h1, h2⟩ | ⟨h1, h2⟩
  · have := Nat.le_of_ble_eq_true h1; omega
  rcases cond_cases h2 with ⟨h3, h4⟩ | ⟨h3, h4⟩
  · exact .inl ⟨h4.symm, h3⟩
  rcases cond_cases h4 with ⟨h5, h6⟩ | ⟨h5, h6⟩
  · exact .inr (.inl ⟨h6.symm, h5⟩)
  rcases cond_cases h6 with ⟨h7, h8⟩ | ⟨h7, h8⟩
  · rcases cond_cases h8 with ⟨h9, h10⟩ | ⟨h9, h10⟩
    · exact .inr (.inr (.inl ⟨h10.symm, h7, h9⟩))
    · exact .inr (.inr (.inr (.inl ⟨h10.symm, h7⟩)))
  rcases cond_cases h8 with ⟨h9, h10⟩ | ⟨h9, h10⟩
  · simp only [Bool.and_eq_true] at h9
    exact .inr (.inr (.inr (.inr (.inl ⟨h10.symm, h9.1, h9.2⟩))))
  · exact .inr (.inr (.inr (.inr (.inr h10.symm))))

structure OpFacts (E : Env P) (ops : List Oper) (ms : T Nat) (m n i : Nat) (o : Oper) : Prop where
  low : ∀ e ∈ o.after, gcFree e = false → e.on < i
  dst : ∀ t, o.dst = some t → ∀ k, k ∈ writers ops t 0 → k = i
  opnd : ∀ x ∈ opnds o.op, opndOk ops ms i x = true
  guard : ∀ j b, o.guard = some (j, b) → j < i ∧ bitOf ms j i = true ∧ ∃ t, (ops[j]?).bind (·.dst) = some t
  defer : isDefer o.op = false
  tag : tagOf E ops ms m i o ≠ 9
  chain : m ≤ i → i + 1 < n → bitOf ms i (i + 1) = true
  steady : steadyAt ms m n i = true → tagOf E ops ms m i o = 0 ∨ (isRead o.op = true ∧ o.guard = none ∧ ∀ x ∈ opnds o.op, opndEarly ops i x = true)

theorem opOk_facts {E : Env P} {ops : List Oper} {ms : T Nat} {m n i : Nat} {o : Oper} (h : opOk E ops ms m n i o = true) : OpFacts E ops ms m n i o := by
  unfold opOk at h
  simp only [Bool.and_eq_true] at h
  obtain ⟨⟨⟨⟨⟨⟨⟨h1, h2⟩, h3⟩, h4⟩, h5⟩, h6⟩, h7⟩, h8⟩ := h
  refine ⟨fun e he hg => ?_, fun t ht k hk => ?_, fun x hx => ?_, fun j b hg => ?_, ?_, fun e => ?_, fun a b => ?_, fun hs => ?_⟩
  · rw [List.all_eq_true] at h1
    have := h1 e (by simpa using he)
    rw [hg, Bool.false_or] at this
    exact Nat.lt_of_succ_le (Nat.le_of_ble_eq_true this)
  · rw [ht] at h2
    simp only at h2
    split at h2
    · rename_i k' e
      rw [e] at hk
      simp only [List.mem_cons, List.not_mem_nil, or_false] at hk
      rw [hk]; exact Nat.eq_of_beq_eq_true h2
    · cases h2
  · rw [List.all_eq_true] at h3; exact h3 x hx
  · rw [hg] at h4
    simp only [Bool.and_eq_true] at h4
    obtain ⟨⟨h4, h4'⟩, h4''⟩ := h4
    refine ⟨Nat.lt_of_succ_le (Nat.le_of_ble_eq_true h4), h4', ?_⟩
    cases e : (ops[j]?).bind (·.dst) with
    | none => rw [e] at h4''; cases h4''
    | some t => exact ⟨t, rfl⟩
  · simpa using h5
  · rw [e] at h6; simp at h6
  · rcases Bool.or_eq_true_iff.1 h7 with h | h
    · rw [Nat.ble_eq_true_of_le a] at h
      have : Nat.blt (i + 1) n = true := Nat.ble_eq_true_of_le b
      rw [this] at h; cases h
    · exact h
  · rw [hs] at h8
    simp only [Bool.not_true, Bool.false_or, Bool.or_eq_true] at h8
    rcases h8 with h | h
    · exact .inl (Nat.eq_of_beq_eq_true h)
    · simp only [Bool.and_eq_true] at h
      obtain ⟨⟨ha, hb⟩, hc⟩ := h
      refine .inr ⟨ha, ?_, fun x hx => ?_⟩
      · cases e : o.guard with
        | none => rfl
        | some g => rw [e] at hb; cases hb
      · rw [List.all_eq_true] at hc; exact hc x hx

end
end Go.Abs

/- Regions whose order is drawn: the evaluator's. -/
namespace Go.Abs
open Go
noncomputable section
variable {P : Program}

def turnsOp (o : Op) : Bool := match o with
  | .store _ _ _ | .mapUpdate _ _ _ _ => true
  | .call c => match c.callee with
    | .builtin .append | .builtin .copy => true
    | _ => false
  | _ => false
/-- The first that turns something, or a call that is the last one. -/
def firstTurn : List Oper → Nat → Nat
  | [], i => i
  | [o], i => bif turnsOp o.op || isCallV o.op then i else Nat.succ i
  | o :: r, i => bif turnsOp o.op then i else firstTurn r (Nat.succ i)
/-- The first index from which a plan stands. -/
def mSearch (E : Env P) (ops : Array Oper) (n : Nat) : Nat → Nat :=
  Nat.rec (motive := fun _ => Nat → Nat) (fun k => k) (fun _ ih k => Bool.rec (motive := fun _ => Nat) (ih (Nat.succ k)) k (planOk E ops k)) n
def mFind (E : Env P) (ops : Array Oper) : Nat :=
  Bool.rec (motive := fun _ => Nat) (Bool.rec (motive := fun _ => Nat) (mSearch E ops ops.size 0) ops.size (planOk E ops ops.size)) (firstTurn ops.toList 0) (planOk E ops (firstTurn ops.toList 0))
def drAt (E : Env P) (app : App) (ops : Array Oper) (c : Ctx) (tm : T Value) (A : AHeap) (K : KT) (m : Nat) : Bool :=
  Bool.rec (motive := fun _ => Bool) false
    (drun E app c ops A (againOf E ops.toList (masks ops.toList 0 .e) m ops.size ops.toList 0) (tagL E ops.toList (masks ops.toList 0 .e) m ops.toList 0) tm A fun tm A => K c tm A)
    (planOk E ops m)
/-- 'hm': where the latter ones begin, of a function's region, where it is known better. -/
def drOf (E : Env P) (hm : FuncId → Nat → Option Nat) : DT := fun app id ops c tm A K =>
  Option.rec (motive := fun _ => Bool) (fN (mFind E ops) fun m => drAt E app ops c tm A K m) (fun m => drAt E app ops c tm A K m) (hm c.fn id)

theorem bitOf_pre {ops : Array Oper} {k i : Nat} (h : bitOf (masks ops.toList 0 .e) k i = true) : Pre ops k i := by
  unfold bitOf at h
  cases e : (masks ops.toList 0 .e).get i with
  | none => rw [e] at h; simp at h
  | some mm =>
    rw [e] at h
    exact masks_ok ops.toList 0 .e (by simp) (fun j m h => by rw [T.get_e] at h; cases h) i mm e k h

/-- What was seen of a run, and what its plan says. -/
structure Seen (E : Env P) (X : Ext0) (c : Ctx) (ops : Array Oper) (ms : T Nat) (m : Nat) (ag : List Oper) (A : AHeap) (S : Nat → T Value) (H : Nat → AHeap) (R : Nat → Ev) : Prop where
  pre : ∀ {k i}, bitOf ms k i = true → Pre ops k i
  edges : edgesOk ops.toList ops.size = true
  mle : m ≤ ops.size
  wf : WF A
  H0 : H 0 = A
  fact : ∀ i, i < ops.size → OpFacts E ops.toList ms m ops.size i (ops.getD i default)
  step : ∀ i, i < ops.size → StepOk E X c ops A ag (tagOf E ops.toList ms m i (ops.getD i default)) (ops.getD i default) (S i) (H i) (R i) (S (i + 1)) (H (i + 1))
  fin : ∀ o' ∈ ag, AgainOk E (S ops.size) (H ops.size) o'
  again : ∀ i, i < ops.size → steadyAt ms m ops.size i = true → tagOf E ops.toList ms m i (ops.getD i default) ≠ 0 → ops.getD i default ∈ ag

namespace Seen
variable {E : Env P} {X : Ext0} {c : Ctx} {ops : Array Oper} {ms : T Nat} {m : Nat} {ag : List Oper} {A : AHeap} {S : Nat → T Value} {H : Nat → AHeap} {R : Nat → Ev}

theorem soon (_ : Seen E X c ops ms m ag A S H R) {i : Nat} (h : i < m) : tagOf E ops.toList ms m i (ops.getD i default) ≠ 4 := by
  intro e
  rcases tagOf_soon h e with ⟨h, _⟩ | ⟨h, _⟩ | ⟨h, _⟩ | ⟨h, _⟩ | ⟨h, _⟩ | h <;> cases h
theorem mem {i : Nat} (h : i < ops.size) : ops.toList[i]? = some (ops.getD i default) := by
  rw [Array.getElem?_toList, Array.getElem?_eq_getElem h]; simp [Array.getD, h]
theorem writer {i : Nat} (h : i < ops.size) {t : Tmp} (hd : (ops.getD i default).dst = some t) : i ∈ writers ops.toList t 0 := by
  have := writers_of (i := 0) (mem h) hd
  simpa using this
theorem one (h : Seen E X c ops ms m ag A S H R) {i k : Nat} (hi : i < ops.size) (hk : k < ops.size) {t : Tmp} (ei : (ops.getD i default).dst = some t) (ek : (ops.getD k default).dst = some t) : i = k :=
  ((h.fact i hi).dst t ei k (writer hk ek)).symm
theorem S_next (h : Seen E X c ops ms m ag A S H R) {i : Nat} (hi : i < ops.size) (t : Tmp) : (S (i + 1)).get t = if (ops.getD i default).dst = some t then some (R i).val else (S i).get t := by
  have := (h.step i hi).put
  unfold putT at this
  split at this
  · rename_i e
    rw [← Option.some.inj this, e, if_neg (by simp)]
  · rename_i d e
    split at this
    · rw [← Option.some.inj this, T.get_set, e]
      by_cases h1 : t = d
      · subst h1; rw [if_pos rfl, if_pos rfl]
      · rw [if_neg h1, if_neg (by simpa using fun h => h1 h.symm)]
    · cases this
theorem S_same (h : Seen E X c ops ms m ag A S H R) {t : Tmp} (a b : Nat) (hab : a ≤ b) (hb : b ≤ ops.size) (hn : ∀ k, a ≤ k → k < b → (ops.getD k default).dst ≠ some t) : (S b).get t = (S a).get t := by
  induction hab with
  | refl => rfl
  | @step b hab ih =>
    have hab : a ≤ b := hab
    rw [h.S_next (by omega), if_neg (hn b hab (by omega))]
    exact ih (by omega) fun k h1 h2 => hn k h1 (by omega)
theorem S_val (h : Seen E X c ops ms m ag A S H R) {i b : Nat} (hi : i < b) (hb : b ≤ ops.size) {t : Tmp} (hd : (ops.getD i default).dst = some t) : (S b).get t = some (R i).val := by
  rw [h.S_same (i + 1) b hi hb fun k h1 h2 e => by have := h.one (by omega) (by omega) hd e; omega]
  rw [h.S_next (by omega), if_pos hd]
theorem next_le (h : Seen E X c ops ms m ag A S H R) (a b : Nat) (hab : a ≤ b) (hb : b ≤ ops.size) : (H a).next ≤ (H b).next := by
  induction hab with
  | refl => exact Nat.le_refl _
  | @step b hab ih => exact Nat.le_trans (ih (by omega)) (h.step b (by omega)).low.next
theorem wfH (h : Seen E X c ops ms m ag A S H R) (a : Nat) (ha : a ≤ ops.size) : WF (H a) := by
  cases a with
  | zero => rw [h.H0]; exact h.wf
  | succ a => exact (h.step a (by omega)).low.wf
theorem lowH (h : Seen E X c ops ms m ag A S H R) (a : Nat) (ha : a ≤ ops.size) : Low A (H a) := by
  induction a with
  | zero => rw [h.H0]; exact Low.refl h.wf
  | succ a ih => exact (ih (by omega)).trans (h.step a (by omega)).low
theorem keeps (h : Seen E X c ops ms m ag A S H R) (a b : Nat) (hab : a ≤ b) (hb : b ≤ m) {j : Nat} (hj : j < (H a).next) : (H b).obj j = (H a).obj j := by
  have hm := h.mle
  induction hab with
  | refl => rfl
  | @step b hab ih =>
    have hab : a ≤ b := hab
    rw [(h.step b (by omega)).keep (h.soon (by omega)) j (Nat.lt_of_lt_of_le hj (h.next_le a b hab (by omega))), ih (by omega)]
theorem origin (h : Seen E X c ops ms m ag A S H R) (b : Nat) (hb : b ≤ m) {j : Nat} {ob : AObj} (e : (H b).obj j = some ob) :
    A.obj j = some ob ∨ ∃ k, k < b ∧ (H k).next ≤ j ∧ j < (H (k + 1)).next ∧ (H (k + 1)).obj j = some ob := by
  have hm := h.mle
  induction b with
  | zero => rw [h.H0] at e; exact .inl e
  | succ b ih =>
    by_cases hj : j < (H b).next
    · rw [h.keeps b (b + 1) (by omega) hb hj] at e
      rcases ih (by omega) e with h1 | ⟨k, h1, h2⟩
      · exact .inl h1
      · exact .inr ⟨k, by omega, h2⟩
    · exact .inr ⟨b, by omega, by omega, (h.wfH (b + 1) (by omega)).lt e, e⟩
theorem made (h : Seen E X c ops ms m ag A S H R) {k j : Nat} {ob : AObj} (hk : k < m) (h1 : (H k).next ≤ j) (h2 : j < (H (k + 1)).next) (e : (H (k + 1)).obj j = some ob) :
    (R k).Hs.next ≤ j ∧ j < (R k).He.next ∧ (R k).He.obj j = some ob ∧ (isNew (ops.getD k default).op = true ∨ isCallV (ops.getD k default).op = true) := by
  have hm := h.mle
  have hs := h.step k (by omega)
  have h4 := h.soon hk
  rcases hs.nexts h4 with ⟨h5, h6⟩ | ⟨h5, _⟩
  · exact ⟨by omega, by omega, hs.made h4 j ob h1 e, hs.maker h4 (by omega)⟩
  · omega

/-- What operations ahead of it may look at. -/
def rho (ops : Array Oper) (S : Nat → T Value) (i : Nat) (x : Operand) : Option Value :=
  open Classical in if x ∈ opnds (ops.getD i default).op then opE (S i) x else none

theorem rho_mem {i : Nat} {x : Operand} (h : x ∈ opnds (ops.getD i default).op) : rho ops S i x = opE (S i) x := by
  unfold rho; rw [if_pos h]

def draw (ops : Array Oper) (ms : T Nat) (m : Nat) (S : Nat → T Value) (H : Nat → AHeap) (R : Nat → Ev) : Draw where
  m := m
  Hs i := (R i).Hs
  He i := (R i).He
  G q := H (m + q)
  val i := (R i).val
  tF := S ops.size
  rho := rho ops S
  W i := (R i).W
  isC i := isCallV (ops.getD i default).op
  st i := steadyAt ms m ops.size i
  fv i := (R i).fv
  args i := (R i).args

end Seen
end
end Go.Abs

/- Regions whose order is drawn: the evaluator's, proved. -/
namespace Go.Abs
open Go
noncomputable section
variable {P : Program}
namespace Seen
variable {E : Env P} {X : Ext0} {c : Ctx} {ops : Array Oper} {ms : T Nat} {m : Nat} {ag : List Oper} {A : AHeap} {S : Nat → T Value} {H : Nat → AHeap} {R : Nat → Ev} {tm : T Value}

theorem notCall_pure {o : Oper} (h : isPure E o.op = true) : isCallV o.op = false := by
  cases hb : isCallV o.op with
  | false => rfl
  | true =>
    unfold isCallV at hb
    split at hb
    · rename_i ca ho; rw [ho] at h; cases h
    · cases hb
theorem notCall_read {o : Oper} (h : isRead o.op = true) : isCallV o.op = false := by
  cases hb : isCallV o.op with
  | false => rfl
  | true =>
    unfold isCallV at hb
    split at hb
    · rename_i ca ho
      split at hb
      · rename_i f hc; exact (isRead_call h ho hc).elim
      · cases hb
    · cases hb

theorem opnd_ok {i : Nat} {x : Operand} (h : Seen E X c ops ms m ag A S H R) (hS : S 0 = tm) (hi : i < ops.size) (hx : x ∈ opnds (ops.getD i default).op) {v : Value} (e : opE (S i) x = some v) :
    match x with
      | .tmp t => ((∀ k, k < ops.size → (ops.getD k default).dst = some t → Pre ops k i) ∧ v = ((S ops.size).get t).getD undef) ∨
        ((∀ k, k < ops.size → (ops.getD k default).dst = some t → Pre ops i k ∨ k = i) ∧ v = (tm.get t).getD undef)
      | x => opE tm x = some v := by
  cases x with
  | tmp t =>
    have h0 := (h.fact i hi).opnd _ hx
    simp only [opndOk, List.all_eq_true] at h0
    simp only [opE, Option.some.injEq] at e
    by_cases hw : ∃ k, k < ops.size ∧ (ops.getD k default).dst = some t ∧ k < i
    · obtain ⟨k, hk, hd, hki⟩ := hw
      refine .inl ⟨fun k' hk' hd' => ?_, ?_⟩
      · have := h.one hk hk' hd hd'
        subst this
        have := h0 k (writer hk hd)
        simp only [Bool.or_eq_true, Bool.and_eq_true] at this
        rcases this with ⟨_, h1⟩ | ⟨h1, _⟩
        · exact h.pre h1
        · have := Nat.le_of_ble_eq_true h1; omega
      · rw [← e, h.S_val hki (by omega) hd, h.S_val hk (Nat.le_refl _) hd]
    · by_cases hw2 : ∃ k, k < ops.size ∧ (ops.getD k default).dst = some t
      · obtain ⟨k, hk, hd⟩ := hw2
        refine .inr ⟨fun k' hk' hd' => ?_, ?_⟩
        · have := h.one hk hk' hd hd'
          subst this
          have h2 := h0 k (writer hk hd)
          simp only [Bool.or_eq_true, Bool.and_eq_true] at h2
          rcases h2 with ⟨h1, _⟩ | ⟨_, h1 | h1⟩
          · exact absurd ⟨k, hk, hd, Nat.lt_of_succ_le (Nat.le_of_ble_eq_true h1)⟩ hw
          · exact .inl (h.pre h1)
          · exact .inr (Nat.eq_of_beq_eq_true h1)
        · rw [← e, ← hS, h.S_same 0 i (by omega) (by omega) fun k' _ h2 e' => hw ⟨k', by omega, e', h2⟩]
      · refine .inl ⟨fun k hk hd => absurd ⟨k, hk, hd⟩ hw2, ?_⟩
        rw [← e, h.S_same i ops.size (by omega) (Nat.le_refl _) fun k' _ h2 e' => hw2 ⟨k', h2, e'⟩]
  | _ => exact e

theorem evList_rho {i : Nat} (l : List Operand) (hl : ∀ x ∈ l, x ∈ opnds (ops.getD i default).op) : evList (rho ops S i) l = evList (opE (S i)) l :=
  evList_congr fun x hx => rho_mem (hl x hx)
theorem aop_rho {i : Nat} (B : AHeap) : aop E (ops.getD i default) (rho ops S i) B = aop E (ops.getD i default) (opE (S i)) B :=
  aop_congr fun _ hx => rho_mem hx

/-- A steady one tells the same on the later heaps. -/
theorem steadies (h : Seen E X c ops ms m ag A S H R) {i : Nat} (hi : i < m) (hst : steadyAt ms m ops.size i = true) :
    isCallV (ops.getD i default).op = false ∧ (R i).He = (R i).Hs ∧ ((R i).W = true → ∀ q, m + q ≤ ops.size → aop E (ops.getD i default) (opE (S i)) (H (m + q)) = some ((R i).val, H (m + q))) := by
  have hm := h.mle
  have hs := h.step i (by omega)
  have hf := h.fact i (by omega)
  rcases hf.steady hst with h0 | ⟨h0, hg, he⟩
  · have hp : isPure E (ops.getD i default).op = true := by
      rcases tagOf_soon hi h0 with ⟨_, h⟩ | ⟨h, _⟩ | ⟨h, _⟩ | ⟨h, _⟩ | ⟨h, _⟩ | h
      · exact h
      all_goals cases h
    have hnc := notCall_pure hp
    refine ⟨hnc, ?_, fun hW q _ => ?_⟩
    · cases hW : (R i).W with
      | false => exact (hs.un hW).2
      | true => exact (aop_pure hp (hs.op hW hnc)).1
    · exact (aop_pure hp (hs.op hW hnc)).2 _
  · have hnc := notCall_read h0
    refine ⟨hnc, ?_, fun hW q hq => ?_⟩
    · cases hW : (R i).W with
      | false => exact (hs.un hW).2
      | true => exact aop_read h0 (hs.op hW hnc)
    · by_cases ht : tagOf E ops.toList ms m i (ops.getD i default) = 0
      · have hp : isPure E (ops.getD i default).op = true := by
          rcases tagOf_soon hi ht with ⟨_, h⟩ | ⟨h, _⟩ | ⟨h, _⟩ | ⟨h, _⟩ | ⟨h, _⟩ | h
          · exact h
          all_goals cases h
        exact (aop_pure hp (hs.op hW hnc)).2 _
      have hmem := h.again i (by omega) hst ht
      have hA : AgainOk E (S (m + q)) (H (m + q)) (ops.getD i default) := by
        by_cases hq' : m + q < ops.size
        · exact ((h.step (m + q) hq').lat (tagOf_late (by omega))).2.2 _ hmem
        · have : m + q = ops.size := by omega
          rw [this]; exact h.fin _ hmem
      obtain ⟨d, hd, ha⟩ := hA h0
      rw [h.S_val (by omega) hq hd] at ha
      rw [← aop_congr (ρ := opE (S (m + q)))]
      · exact ha
      · intro x hx
        cases x with
        | tmp t =>
          simp only [opE]
          have := he _ hx
          simp only [opndEarly, List.all_eq_true] at this
          rw [h.S_same i (m + q) (by omega) hq fun k h1 h2 e => ?_]
          have := this k (writer (by omega) e)
          have := Nat.lt_of_succ_le (Nat.le_of_ble_eq_true this)
          omega
        | _ => rfl

theorem ok (h : Seen E X c ops ms m ag A S H R) (hS : S 0 = tm) : Draw.Ok ops (c.st tm) A E (draw ops ms m S H R) where
  low := edgesOk_low h.edges fun i hi => (h.fact i hi).low
  mle := h.mle
  rho := fun i hi x v e => by
    have e : rho ops S i x = some v := e
    by_cases hx : x ∈ opnds (ops.getD i default).op
    · rw [rho_mem hx] at e
      have := h.opnd_ok hS hi hx e
      cases x with
      | tmp t => exact this
      | _ => rw [opE_ev]; exact this
    · unfold rho at e; rw [if_neg hx] at e; cases e
  want := fun i hi => by
    have hw := (h.step i hi).wants
    unfold St.wants at hw
    cases hg : (ops.getD i default).guard with
    | none => rw [hg] at hw; exact hw.symm
    | some g =>
      obtain ⟨j, b⟩ := g
      rw [hg] at hw
      obtain ⟨hji, hpre, t, ht⟩ := (h.fact i hi).guard j b hg
      rw [Array.getElem?_toList] at ht
      have hj : j < ops.size := by omega
      have hd : (ops.getD j default).dst = some t := by
        rw [Array.getElem?_eq_getElem hj] at ht
        simpa [Array.getD, hj] using ht
      refine ⟨t, hd, hj, h.pre hpre, ?_⟩
      simp only [ht] at hw
      show (R i).W = _
      rw [← hw]
      show (boolOf ((S i).get t) == some b) = (boolOf ((S ops.size).get t) == some b)
      rw [h.S_val hji (by omega) hd, h.S_val hj (Nat.le_refl _) hd]
  op := fun i hi hW hc => by
    show aop E _ (rho ops S i) _ = _
    rw [aop_rho]; exact (h.step i hi).op hW hc
  call := fun i hi hW hc => by
    obtain ⟨ca, f, ho, hcal, hf, ha, _⟩ := (h.step i hi).call hW hc
    refine ⟨ca, f, ho, hcal, ?_, ?_⟩
    · show rho ops S i f = _
      rw [rho_mem (by rw [ho]; simp [opnds, hcal])]; exact hf
    · show evList (rho ops S i) _ = _
      rw [evList_rho _ fun x hx => by rw [ho]; simp only [opnds, List.mem_append]; exact .inr hx]; exact ha
  un := fun i hi hW => (h.step i hi).un hW
  dst := fun i hi t hd => by
    refine ⟨?_, h.S_val hi (Nat.le_refl _) hd⟩
    have := (h.step i hi).put
    rw [hd] at this
    simp only [putT] at this
    split at this
    · assumption
    · cases this
  dst1 := fun i k hi hk t e e' => h.one hi hk e e'
  rest := fun t hn => by
    show (S ops.size).get t = tm.get t
    rw [h.S_same 0 ops.size (by omega) (Nat.le_refl _) fun k _ hk => hn k hk, hS]
  lat := fun q hq => by
    obtain ⟨h1, h2, _⟩ := (h.step (m + q) hq).lat (tagOf_late (by omega))
    exact ⟨h1, h2⟩
  chain := fun j hj hj' => h.pre ((h.fact j (by omega)).chain hj hj')
  steady := fun i hi hst => by
    obtain ⟨h1, h2, h3⟩ := h.steadies hi hst
    refine ⟨h1, h2, fun hW q hq => ?_⟩
    show aop E _ (rho ops S i) _ = _
    rw [aop_rho]; exact h3 hW q hq
  ahead := fun i hi hst hm => by
    have hst : steadyAt ms m ops.size i = false := hst
    have hm : m < ops.size := hm
    have hi : i < m := hi
    unfold steadyAt at hst
    rw [show Nat.blt i m = true from Nat.ble_eq_true_of_le hi, show Nat.blt m ops.size = true from Nat.ble_eq_true_of_le hm] at hst
    simp only [Bool.true_and, Bool.not_eq_false'] at hst
    exact h.pre hst
  nx := fun i hi => by
    have hi : i < m := hi
    have hm := h.mle
    have h0 := h.next_le 0 i (by omega) (by omega)
    have h1 := h.next_le (i + 1) m (by omega) hm
    have h2 := h.next_le 0 m (by omega) hm
    rw [h.H0] at h0 h2
    show A.next ≤ (R i).Hs.next ∧ (R i).He.next ≤ (H (m + 0)).next
    rcases (h.step i (by omega)).nexts (h.soon hi) with ⟨h3, h4⟩ | ⟨h3, h4, h5⟩
    · exact ⟨by omega, by rw [Nat.add_zero]; omega⟩
    · exact ⟨by omega, by rw [Nat.add_zero]; omega⟩
  apart := fun i k j hi hk a b a' b' => by
    have hi : i < m := hi
    have hk : k < m := hk
    have hm := h.mle
    have a : (R i).Hs.next ≤ j := a
    have b : j < (R i).He.next := b
    have a' : (R k).Hs.next ≤ j := a'
    have b' : j < (R k).He.next := b'
    rcases (h.step i (by omega)).nexts (h.soon hi) with ⟨h3, h4⟩ | ⟨h3, h4, h5⟩
    · rcases (h.step k (by omega)).nexts (h.soon hk) with ⟨h6, h7⟩ | ⟨h6, h7, h8⟩
      · rcases Nat.lt_trichotomy i k with h9 | h9 | h9
        · have := h.next_le (i + 1) k (by omega) (by omega); omega
        · exact h9
        · have := h.next_le (k + 1) i (by omega) (by omega); omega
      · omega
    · omega
  stays := fun i hi j ob => (h.step i (Nat.lt_of_lt_of_le hi h.mle)).stays (h.soon hi) j ob
  into := fun i hi j ob e => by
    have hi : i < m := hi
    have hm := h.mle
    show (H (m + 0)).obj j = some ob
    rw [Nat.add_zero]
    rcases (h.step i (by omega)).he (h.soon hi) j ob e with e | e
    · rw [h.keeps 0 m (by omega) (Nat.le_refl _) (by rw [h.H0]; exact h.wf.lt e), h.H0]; exact e
    · rw [h.keeps (i + 1) m (by omega) (Nat.le_refl _) ((h.wfH (i + 1) (by omega)).lt e)]; exact e
  from' := fun i hi j ob e => by
    have hi : i < m := hi
    have hm := h.mle
    have e : (R i).Hs.obj j = some ob := e
    rcases (h.step i (by omega)).hs (h.soon hi) with h1 | ⟨h1, hg⟩
    · rw [h1] at e; exact .inl e
    · rw [h1] at e
      rcases h.origin i (by omega) e with h2 | ⟨k, hk, h2, h3, h4⟩
      · exact .inl h2
      · obtain ⟨h5, h6, h7, h8⟩ := h.made (by omega) h2 h3 h4
        refine .inr ⟨k, Nat.lt_trans hk hi, h.pre ?_, h5, h6, h7⟩
        have hma : makersAhead ms m i ops.toList 0 = true := by
          rcases hg with hg | hg
          · rcases tagOf_soon hi hg with ⟨h, _⟩ | ⟨h, _⟩ | ⟨_, _, h⟩ | ⟨h, _⟩ | ⟨h, _⟩ | h
            all_goals first | exact h | cases h
          · rcases tagOf_soon hi hg with ⟨h, _⟩ | ⟨h, _⟩ | ⟨h, _⟩ | ⟨h, _⟩ | ⟨_, _, h⟩ | h
            all_goals first | exact h | cases h
        have := makersAhead_of hma k (ops.getD k default) (mem (by omega)) (by omega) (by omega) h8
        simpa using this
  whole := fun j ob e => by
    have e : (H (m + 0)).obj j = some ob := e
    rw [Nat.add_zero] at e
    rcases h.origin m (Nat.le_refl _) e with h2 | ⟨k, hk, h2, h3, h4⟩
    · exact .inl h2
    · obtain ⟨h5, h6, h7, _⟩ := h.made hk h2 h3 h4
      exact .inr ⟨k, hk, h5, h6, h7⟩
  old := fun j ob e => by
    have hm := h.mle
    refine ⟨?_, h.wf.lt e⟩
    show (H (m + 0)).obj j = some ob
    rw [Nat.add_zero, h.keeps 0 m (by omega) (Nat.le_refl _) (by rw [h.H0]; exact h.wf.lt e), h.H0]; exact e
  nx0 := by
    have h2 := h.next_le 0 m (by omega) h.mle
    rw [h.H0] at h2
    show A.next ≤ (H (m + 0)).next
    rw [Nat.add_zero]; exact h2
end Seen

theorem drAt_of {E : Env P} {X : Ext0} {app : App} (happ : AppOk E X app) {id : Nat} {ops : Array Oper} {c : Ctx} {tm : T Value} {A : AHeap} {K : KT} {m : Nat} (h : drAt E app ops c tm A K m = true) (hw : WF A) :
    ∃ tm' A', BS E X (.code (.region id ops true) (c.st tm) A .normal (c.st tm') A') ∧ Low A A' ∧ K c tm' A' = true := by
  unfold drAt at h
  obtain ⟨hp, h1⟩ := brec_false h
  unfold planOk at hp
  simp only [Bool.and_eq_true] at hp
  obtain ⟨⟨hed, hm⟩, hops⟩ := hp
  have hm : m ≤ ops.size := Nat.le_of_ble_eq_true hm
  have fact : ∀ i, i < ops.size → OpFacts E ops.toList (masks ops.toList 0 .e) m ops.size i (ops.getD i default) := fun i hi => by
    have := opsOk_of hops i (ops.getD i default) (Seen.mem hi)
    rw [Nat.zero_add] at this
    exact opOk_facts this
  obtain ⟨S, H, R, hS, hH, hst, hfin, hk⟩ := drun_of (X := X) happ hw _ tm A _ h1 hw (Nat.le_refl _) (by
    intro k g o hk
    rw [tagL_get, Option.map_eq_some_iff] at hk
    obtain ⟨o', ho', e⟩ := hk
    simp only [Prod.mk.injEq] at e
    obtain ⟨hg, rfl⟩ := e
    have hkn : k < ops.size := by
      have := (List.getElem?_eq_some_iff.1 ho').1; simpa using this
    have eo : o' = ops.getD k default := by
      have := Seen.mem (ops := ops) hkn; rw [ho'] at this; exact Option.some.inj this
    rw [Nat.zero_add] at hg
    have hf := fact k hkn
    rw [← eo] at hf
    by_cases hkm : k < m
    · rcases tagOf_soon hkm hg with ⟨h, h'⟩ | ⟨h, h'⟩ | ⟨h, h', _⟩ | ⟨h, h'⟩ | ⟨h, h', _⟩ | h
      · exact .inl ⟨h, h'⟩
      · exact .inr (.inl ⟨h, h'⟩)
      · exact .inr (.inr (.inl ⟨h, h'⟩))
      · exact .inr (.inr (.inr (.inr (.inr ⟨h, h'⟩))))
      · exact .inr (.inr (.inr (.inl ⟨h, h'⟩)))
      · exact absurd (hg.trans h) hf.tag
    · rw [tagOf_late (by omega)] at hg
      exact .inr (.inr (.inr (.inr (.inl ⟨hg.symm, hf.defer⟩)))))
  rw [tagL_length, Array.length_toList] at hfin hk
  have hseen : Seen E X c ops (masks ops.toList 0 .e) m (againOf E ops.toList (masks ops.toList 0 .e) m ops.size ops.toList 0) A S H R := {
    pre := bitOf_pre, edges := hed, mle := hm, wf := hw, H0 := hH, fact := fact, fin := hfin
    step := fun i hi => by
      refine hst i _ _ ?_
      rw [tagL_get, Seen.mem hi]; simp
    again := fun i hi hs ht => by
      have := againOf_mem (E := E) (ops := ops.toList) (ms := masks ops.toList 0 .e) (m := m) (n := ops.size) (i := 0) (Seen.mem hi) (by rw [Nat.zero_add]; exact hs) (by rw [Nat.zero_add]; exact ht)
      exact this }
  have hd := hseen.ok hS
  refine ⟨S ops.size, H ops.size, ?_, hseen.lowH _ (Nat.le_refl _), hk⟩
  have hb := BS.regionD (X := X) (id := id) hd (fun i hi => (hseen.step i hi).grow) (fun i hi hW hc => by
    obtain ⟨ca, f, ho, hcal, hf, ha, hb⟩ := (hseen.step i hi).call hW hc
    exact hb)
  have e : (Seen.draw ops (masks ops.toList 0 .e) m S H R).G (ops.size - (Seen.draw ops (masks ops.toList 0 .e) m S H R).m) = H ops.size := by
    show H (m + (ops.size - m)) = _
    congr 1; omega
  rw [e] at hb
  exact hb

theorem drOf_ok {E : Env P} {X : Ext0} {hm : FuncId → Nat → Option Nat} : DrOk E X (drOf E hm) := by
  intro app happ id ops c tm A K h hw
  unfold drOf at h
  rcases orec_or h with ⟨m, _, h⟩ | ⟨_, h⟩
  · exact drAt_of happ h hw
  · rw [fN_eq] at h
    exact drAt_of happ h hw

end
end Go.Abs

/- The environment of a program. -/
namespace Go.Abs
open Go
def Env.ofProg (P : Program) : Env P where
  und t := P.underlying t
  inf t := P.info? t
  fns f := P.funcs[f]?
  egt t := !P.eqGuardType P.depth t
  hld t := !P.stoodInHeld t
  und_ok _ _ h := h
  inf_ok _ _ h := h
  fns_ok _ _ h := h
  egt_ok t h := by simpa using h
  hld_ok t h := by simpa using h
end Go.Abs

/- Functions that the model stands in for: sync/atomic, math/bits.Add64, internal/race. -/
namespace Go.Abs
open Go
noncomputable section
variable {P : Program}

inductive XK where
  | add (k : IntKind)
  | load (k : IntKind)
  | store
  | cas (k : IntKind)
  | mark0 (m : Mark)
  | markAt (m : Addr → Mark)
  | add64

def XK.entry : XK → Array Value → Sem Value
  | .add k => Extern.Atomic.update (Op.intArith .add) k true
  | .load k => Extern.Atomic.loadT (.int k)
  | .store => Extern.Atomic.storeT
  | .cas k => Extern.Atomic.casT (.int k)
  | .mark0 m => fun _ => do mark m; pure Extern.Race.none_
  | .markAt m => Extern.Race.marked m
  | .add64 => add64Entry

/-- What the numbers of functions are. -/
def XFit (P : Program) (xk : FuncId → Option XK) : Prop :=
  ∀ f k, xk f = some k → ∃ fn, P.funcs[f]? = some fn ∧ (fn.name == "runtime.NumGoroutine") = false ∧ fn.body.isNone = true ∧ Extern.findNext fn = none ∧ Extern.find fn = some k.entry

inductive XRel : XK → List Value → AHeap → Value → AHeap → Prop where
  | add {k : IntKind} {A : AHeap} {i off es n : Nat} {z : List Value} {c : T Value} {x d : Int} (hi : A.obj i = some (.cells false es n z c)) (ho : off < n) (hx : cellAt z c off = .int k x) :
    XRel (.add k) [.pointer (some ⟨i, off, none⟩), .int k d] A (.int k (k.wrap (x + d))) (A.set i (.cells false es n z (c.set off (.int k (k.wrap (x + d))))))
  | load {k : IntKind} {A : AHeap} {i off es n : Nat} {ro : Bool} {z : List Value} {c : T Value} {x : Int} (hi : A.obj i = some (.cells ro es n z c)) (ho : off < n) (hx : cellAt z c off = .int k x) :
    XRel (.load k) [.pointer (some ⟨i, off, none⟩)] A (.int k x) A
  | store {k : IntKind} {A : AHeap} {i off es n : Nat} {z : List Value} {c : T Value} {y : Int} (hi : A.obj i = some (.cells false es n z c)) (ho : off < n) :
    XRel .store [.pointer (some ⟨i, off, none⟩), .int k y] A (.tuple #[]) (A.set i (.cells false es n z (c.set off (.int k y))))
  | casHit {k : IntKind} {A : AHeap} {i off es n : Nat} {z : List Value} {c : T Value} {x y : Int} (hi : A.obj i = some (.cells false es n z c)) (ho : off < n) (hx : cellAt z c off = .int k x) :
    XRel (.cas k) [.pointer (some ⟨i, off, none⟩), .int k x, .int k y] A (.bool true) (A.set i (.cells false es n z (c.set off (.int k y))))
  | casMiss {k : IntKind} {A : AHeap} {i off es n : Nat} {z : List Value} {c : T Value} {x o y : Int} (hi : A.obj i = some (.cells false es n z c)) (ho : off < n) (hx : cellAt z c off = .int k x) (hne : ¬ x = o) :
    XRel (.cas k) [.pointer (some ⟨i, off, none⟩), .int k o, .int k y] A (.bool false) A
  | mark0 {m : Mark} {A : AHeap} : XRel (.mark0 m) [] A (.tuple #[]) A
  | markAt {m : Addr → Mark} {A : AHeap} {i off : Nat} : XRel (.markAt m) [.pointer (some ⟨i, off, none⟩)] A (.tuple #[]) A
  | add64 {A : AHeap} {x y c : Int} (hx : 0 ≤ x) (hy : 0 ≤ y) (hc0 : 0 ≤ c) (hc : c ≤ 1) :
    XRel .add64 [.int .u64 x, .int .u64 y, .int .u64 c] A (.tuple #[.int .u64 ((x + y + c) % 18446744073709551616), .int .u64 ((x + y + c) / 18446744073709551616)]) A

def XOf (xk : FuncId → Option XK) : Ext0 := fun f args A v A' => ∃ k, xk f = some k ∧ XRel k args A v A'

theorem Real.setCell {ι : Inj} {A : AHeap} {w : World} (h : Real ι A w) {i : Nat} {es n : Nat} {z : List Value} {c : T Value} (hi : A.obj i = some (.cells false es n z c))
    {l : Loc} (hl : ι i = some l) {off : Nat} {v v' : Value} (hn : off < n) (hv : VR ι v v') (h1 : v.oneCell' = true) (h2 : v'.oneCell' = true) :
    w.frozen? ⟨l.blk, l.sh + off, none⟩ = false ∧ Real ι (A.set i (.cells false es n z (c.set off v))) (w.setCell ⟨l.blk, l.sh + off, none⟩ v') ∧
      Ext ι A w ι (A.set i (.cells false es n z (c.set off v))) (w.setCell ⟨l.blk, l.sh + off, none⟩ v') := by
  obtain ⟨w', r1, r2, r3⟩ := h.store (P := default) hi hl (off := off) (vs := [v]) (vs' := [v']) (by simp; omega) (.cons hv .nil) (by simpa using h1)
  obtain ⟨l', hl', C, t, fz, hb, hf, _, hs, hc⟩ := h.cells hi
  rw [hl] at hl'; cases hl'
  obtain ⟨rfl, _⟩ := hf rfl
  have hlt : l.sh + off < C.size := by omega
  have hfz : w.frozen? ⟨l.blk, l.sh + off, none⟩ = false := frozen_of_block hb
  have e : w' = w.setCell ⟨l.blk, l.sh + off, none⟩ v' := by
    simp only [storeCells, addr_add, Sem.run_bind, Nat.add_zero] at r1
    rw [run_store _ w _ v' _ h2, cell_of_block hb, Array.getElem?_eq_getElem hlt, hfz] at r1
    simp at r1
    exact r1.symm
  subst e
  exact ⟨hfz, r2, r3⟩

theorem Real.cell {ι : Inj} {A : AHeap} {w : World} (h : Real ι A w) {i : Nat} {ro : Bool} {es n : Nat} {z : List Value} {c : T Value} (hi : A.obj i = some (.cells ro es n z c))
    {l : Loc} (hl : ι i = some l) {off : Nat} (hn : off < n) {k : IntKind} {x : Int} (hx : cellAt z c off = .int k x) : w.cell? ⟨l.blk, l.sh + off, none⟩ = some (.int k x) := by
  obtain ⟨l', hl', C, t, fz, hb, _, _, hs, hc⟩ := h.cells hi
  rw [hl] at hl'; cases hl'
  obtain ⟨v, e, hv⟩ := hc off hn
  rw [hx] at hv
  rw [cell_of_block hb, e, hv.int_inv]
theorem Real.cellAny {ι : Inj} {A : AHeap} {w : World} (h : Real ι A w) {i : Nat} {ro : Bool} {es n : Nat} {z : List Value} {c : T Value} (hi : A.obj i = some (.cells ro es n z c))
    {l : Loc} (hl : ι i = some l) {off : Nat} (hn : off < n) : ∃ u, w.cell? ⟨l.blk, l.sh + off, none⟩ = some u := by
  obtain ⟨l', hl', C, t, fz, hb, _, _, hs, hc⟩ := h.cells hi
  rw [hl] at hl'; cases hl'
  obtain ⟨v, e, hv⟩ := hc off hn
  exact ⟨v, by rw [cell_of_block hb, e]⟩

theorem XOf_sem {xk : FuncId → Option XK} (hx : XFit P xk) : ∀ f args A v A', XOf xk f args A v A' → Sem' P (.call f args A v A') := by
  rintro f args A v A' ⟨k, hk, hr⟩
  obtain ⟨fn, hf, hname, hb, hn, he⟩ := hx f k hk
  cases hr with
  | @add k A i off es n z c x d hi ho hcx =>
    refine ⟨by simp, fun ι w args' ha hR hF => ?_⟩
    obtain ⟨p', r', rfl, hp, ha⟩ := ha.inv_cons
    obtain ⟨d', r', rfl, hd, ha⟩ := ha.inv_cons
    have := ha.inv_nil
    subst this
    obtain ⟨l, hl, rfl⟩ := hp.ptr_inv
    have := hd.int_inv
    subst this
    obtain ⟨hfz, R', X'⟩ := hR.setCell hi hl ho (.int (ι := ι) (k := k) (n := k.wrap (x + d))) rfl rfl
    exact ⟨ι, _, _, .inl (run_call_add hf hname hb hn k he (hR.cell hi hl ho hcx) hfz rfl), .int _ _, R', X'⟩
  | @load k A i off es n ro z c x hi ho hcx =>
    refine ⟨by simp, fun ι w args' ha hR hF => ?_⟩
    obtain ⟨p', r', rfl, hp, ha⟩ := ha.inv_cons
    have := ha.inv_nil
    subst this
    obtain ⟨l, hl, rfl⟩ := hp.ptr_inv
    exact ⟨ι, _, _, .inl (run_call_load hf hname hb hn k he (hR.cell hi hl ho hcx)), .int _ _, hR, Ext.refl _ _ _⟩
  | @store k A i off es n z c y hi ho =>
    refine ⟨by simp, fun ι w args' ha hR hF => ?_⟩
    obtain ⟨p', r', rfl, hp, ha⟩ := ha.inv_cons
    obtain ⟨d', r', rfl, hd, ha⟩ := ha.inv_cons
    have := ha.inv_nil
    subst this
    obtain ⟨l, hl, rfl⟩ := hp.ptr_inv
    have := hd.int_inv
    subst this
    obtain ⟨u, hu⟩ := hR.cellAny hi hl ho
    obtain ⟨hfz, R', X'⟩ := hR.setCell hi hl ho (.int (ι := ι) (k := k) (n := y)) rfl rfl
    exact ⟨ι, _, _, .inl (run_call_store hf hname hb hn he hu hfz), VR.undef ι, R', X'⟩
  | @casHit k A i off es n z c x y hi ho hcx =>
    refine ⟨by simp, fun ι w args' ha hR hF => ?_⟩
    obtain ⟨p', r', rfl, hp, ha⟩ := ha.inv_cons
    obtain ⟨d', r', rfl, hd, ha⟩ := ha.inv_cons
    obtain ⟨e', r', rfl, hde, ha⟩ := ha.inv_cons
    have := ha.inv_nil
    subst this
    obtain ⟨l, hl, rfl⟩ := hp.ptr_inv
    have := hd.int_inv
    subst this
    have := hde.int_inv
    subst this
    obtain ⟨hfz, R', X'⟩ := hR.setCell hi hl ho (.int (ι := ι) (k := k) (n := y)) rfl rfl
    exact ⟨ι, _, _, .inl (run_call_cas_hit hf hname hb hn k he (hR.cell hi hl ho hcx) hfz), .bool _, R', X'⟩
  | @casMiss k A i off es n z c x o y hi ho hcx hne =>
    refine ⟨by simp, fun ι w args' ha hR hF => ?_⟩
    obtain ⟨p', r', rfl, hp, ha⟩ := ha.inv_cons
    obtain ⟨d', r', rfl, hd, ha⟩ := ha.inv_cons
    obtain ⟨e', r', rfl, hde, ha⟩ := ha.inv_cons
    have := ha.inv_nil
    subst this
    obtain ⟨l, hl, rfl⟩ := hp.ptr_inv
    have := hd.int_inv
    subst this
    have := hde.int_inv
    subst this
    obtain ⟨hfz, _, _⟩ := hR.setCell hi hl ho (.int (ι := ι) (k := k) (n := y)) rfl rfl
    exact ⟨ι, _, _, .inl (run_call_cas_miss hf hname hb hn k he (hR.cell hi hl ho hcx) hfz hne), .bool _, hR, Ext.refl _ _ _⟩
  | mark0 =>
    refine ⟨by simp, fun ι w args' ha hR hF => ?_⟩
    have := ha.inv_nil
    subst this
    exact ⟨ι, _, _, .inl (run_call_mark0 hf hname hb hn _ he w), VR.undef ι, hR, Ext.refl _ _ _⟩
  | markAt =>
    refine ⟨by simp, fun ι w args' ha hR hF => ?_⟩
    obtain ⟨p', r', rfl, hp, ha⟩ := ha.inv_cons
    have := ha.inv_nil
    subst this
    obtain ⟨l, hl, rfl⟩ := hp.ptr_inv
    exact ⟨ι, _, _, .inl (run_call_marked hf hname hb hn _ he _ w), VR.undef ι, hR, Ext.refl _ _ _⟩
  | @add64 A x y c hx0 hy hc0 hc =>
    refine ⟨by simp, fun ι w args' ha hR hF => ?_⟩
    obtain ⟨p', r', rfl, hp, ha⟩ := ha.inv_cons
    obtain ⟨d', r', rfl, hd, ha⟩ := ha.inv_cons
    obtain ⟨e', r', rfl, hde, ha⟩ := ha.inv_cons
    have := ha.inv_nil
    subst this
    have := hp.int_inv
    subst this
    have := hd.int_inv
    subst this
    have := hde.int_inv
    subst this
    refine ⟨ι, w, _, .inl ?_, flat_refl (v := .tuple #[.int .u64 ((x + y + c) % 18446744073709551616), .int .u64 ((x + y + c) / 18446744073709551616)]) rfl, hR, Ext.refl _ _ _⟩
    rw [run_callFunc_extern hf hname hb hn he]
    show (((add64Entry #[.int .u64 x, .int .u64 y, .int .u64 c]).run P w).andThen _) = _
    rw [run_add64 x y c hx0 hy hc0 hc]
    rfl

/-! ### The evaluator's -/
def sameK (a b : IntKind) : Bool := decide (a = b)
def cellX (p : Value) (A : AHeap) (K : Nat → Nat → Bool → Nat → Nat → List Value → T Value → Value → Bool) : Bool :=
  vPtr p (fun i off => A.t.getK i (fun ob => obK ob fun ro es n z ce => Bool.rec (motive := fun _ => Bool) false (ce.getK off (fun v => K i off ro es n z ce v) (K i off ro es n z ce (z.getD (off % z.length) undef))) (Nat.blt off n)) false) false
theorem cellX_of {p : Value} {A : AHeap} {K : Nat → Nat → Bool → Nat → Nat → List Value → T Value → Value → Bool} (h : cellX p A K = true) :
    ∃ i off ro es n z c, p = .pointer (some ⟨i, off, none⟩) ∧ A.obj i = some (.cells ro es n z c) ∧ off < n ∧ K i off ro es n z c (cellAt z c off) = true := by
  rcases vPtr_or h with ⟨i, off, rfl, h1⟩ | h1
  · obtain ⟨ob, hob, h2⟩ := T.getK_false h1
    obtain ⟨ro, es, n, z, c, rfl, h3⟩ := obK_of h2
    obtain ⟨hlt, h4⟩ := brec_false h3
    refine ⟨i, off, ro, es, n, z, c, rfl, hob, Nat.lt_of_succ_le (Nat.le_of_ble_eq_true hlt), ?_⟩
    rw [T.getK_eq] at h4
    unfold cellAt
    cases e : c.get off with
    | none => rw [e] at h4; exact h4
    | some v => rw [e] at h4; exact h4
  · cases h1
def putX (A : AHeap) (i off es n : Nat) (z : List Value) (ce : T Value) (v : Value) (K : AHeap → Bool) : Bool :=
  ce.setC off v fun ce => setH A i (.cells false es n z ce) K
theorem putX_eq (A : AHeap) (i off es n : Nat) (z : List Value) (ce : T Value) (v : Value) (K : AHeap → Bool) : putX A i off es n z ce v K = K (A.set i (.cells false es n z (ce.set off v))) := by
  unfold putX; rw [T.setC_eq, setH_eq]

def xArgs (args : List Value) (K0 : Bool) (K1 : Value → Bool) (K2 : Value → Value → Bool) (K3 : Value → Value → Value → Bool) : Bool :=
  match args with
  | [] => K0
  | [a] => K1 a
  | [a, b] => K2 a b
  | [a, b, c] => K3 a b c
  | _ => false

def xT (k : XK) (args : List Value) (A : AHeap) (K : KV) : Bool :=
  match k with
  | .add k => xArgs args false (fun _ => false) (fun p d => vInt d (fun k1 d => cellX p A fun i off ro es n z ce v => vInt v (fun k2 x =>
      Bool.rec (motive := fun _ => Bool) false (fI (k.wrap (x + d)) fun r => putX A i off es n z ce (.int k r) fun A => K (.int k r) A) (sameK k k1 && sameK k k2 && !ro)) false) false) (fun _ _ _ => false)
  | .load k => xArgs args false (fun p => cellX p A fun _ _ _ _ _ _ _ v => vInt v (fun k1 x => Bool.rec (motive := fun _ => Bool) false (K (.int k x) A) (sameK k k1)) false) (fun _ _ => false) (fun _ _ _ => false)
  | .store => xArgs args false (fun _ => false) (fun p y => vInt y (fun k y => cellX p A fun i off ro es n z ce _ => Bool.rec (motive := fun _ => Bool) (putX A i off es n z ce (.int k y) fun A => K (.tuple #[]) A) false ro) false) (fun _ _ _ => false)
  | .cas k => xArgs args false (fun _ => false) (fun _ _ => false) (fun p o y => vInt o (fun k1 o => vInt y (fun k2 y => cellX p A fun i off ro es n z ce v => vInt v (fun k3 x =>
      Bool.rec (motive := fun _ => Bool) false (Bool.rec (motive := fun _ => Bool) (K (.bool false) A) (putX A i off es n z ce (.int k y) fun A => K (.bool true) A) (decide (x = o))) (sameK k k1 && sameK k k2 && sameK k k3 && !ro)) false) false) false)
  | .mark0 _ => xArgs args (K (.tuple #[]) A) (fun _ => false) (fun _ _ => false) (fun _ _ _ => false)
  | .markAt _ => xArgs args false (fun p => vPtr p (fun _ _ => K (.tuple #[]) A) false) (fun _ _ => false) (fun _ _ _ => false)
  | .add64 => xArgs args false (fun _ => false) (fun _ _ => false) (fun x y c => vInt x (fun k1 x => vInt y (fun k2 y => vInt c (fun k3 c =>
      Bool.rec (motive := fun _ => Bool) false (fI ((x + y + c) % 18446744073709551616) fun a => fI ((x + y + c) / 18446744073709551616) fun b => K (.tuple #[.int .u64 a, .int .u64 b]) A)
        (sameK .u64 k1 && sameK .u64 k2 && sameK .u64 k3 && decide (0 ≤ x) && decide (0 ≤ y) && decide (0 ≤ c) && decide (c ≤ 1))) false) false) false)

theorem xArgs_of {args : List Value} {K0 : Bool} {K1 : Value → Bool} {K2 : Value → Value → Bool} {K3 : Value → Value → Value → Bool} (h : xArgs args K0 K1 K2 K3 = true) :
    (args = [] ∧ K0 = true) ∨ (∃ a, args = [a] ∧ K1 a = true) ∨ (∃ a b, args = [a, b] ∧ K2 a b = true) ∨ (∃ a b c, args = [a, b, c] ∧ K3 a b c = true) := by
  unfold xArgs at h
  split at h
  · exact .inl ⟨rfl, h⟩
  · exact .inr (.inl ⟨_, rfl, h⟩)
  · exact .inr (.inr (.inl ⟨_, _, rfl, h⟩))
  · exact .inr (.inr (.inr ⟨_, _, _, rfl, h⟩))
  · cases h
theorem sameK_of {a b : IntKind} (h : sameK a b = true) : b = a := by
  unfold sameK at h; simp at h; exact h.symm
theorem vInt_of {v : Value} {K : IntKind → Int → Bool} (h : vInt v K false = true) : ∃ k n, v = .int k n ∧ K k n = true := by
  rcases vInt_or h with h | h
  · exact h
  · cases h

theorem xT_of {k : XK} {args : List Value} {A : AHeap} {K : KV} (h : xT k args A K = true) (hw : WF A) : ∃ v A', XRel k args A v A' ∧ Low A A' ∧ K v A' = true := by
  cases k with
  | add k =>
    rcases xArgs_of h with ⟨_, h⟩ | ⟨_, _, h⟩ | ⟨p, d, rfl, h⟩ | ⟨_, _, _, _, h⟩ <;> try (cases h; done)
    obtain ⟨k1, d, rfl, h⟩ := vInt_of h
    obtain ⟨i, off, ro, es, n, z, c, rfl, hi, ho, h⟩ := cellX_of h
    obtain ⟨k2, x, hx, h⟩ := vInt_of h
    obtain ⟨hc, hK⟩ := brec_false h
    clear h
    simp only [Bool.and_eq_true, Bool.not_eq_true'] at hc
    obtain ⟨⟨h1, h2⟩, h3⟩ := hc
    rw [fI_eq, putX_eq] at hK
    subst h3
    have := sameK_of h1
    subst this
    have := sameK_of h2
    subst this
    exact ⟨_, _, .add hi ho hx, hw.set' hi, hK⟩
  | load k =>
    rcases xArgs_of h with ⟨_, h⟩ | ⟨p, rfl, h⟩ | ⟨_, _, _, h⟩ | ⟨_, _, _, _, h⟩ <;> try (cases h; done)
    obtain ⟨i, off, ro, es, n, z, c, rfl, hi, ho, h⟩ := cellX_of h
    obtain ⟨k1, x, hx, h⟩ := vInt_of h
    obtain ⟨hc, hK⟩ := brec_false h
    have := sameK_of hc
    subst this
    exact ⟨_, _, .load hi ho hx, Low.refl hw, hK⟩
  | store =>
    rcases xArgs_of h with ⟨_, h⟩ | ⟨_, _, h⟩ | ⟨p, d, rfl, h⟩ | ⟨_, _, _, _, h⟩ <;> try (cases h; done)
    obtain ⟨k1, d, rfl, h⟩ := vInt_of h
    obtain ⟨i, off, ro, es, n, z, c, rfl, hi, ho, h⟩ := cellX_of h
    cases ro with
    | true => cases h
    | false =>
      have h : putX A i off es n z c (.int k1 d) (fun A => K (.tuple #[]) A) = true := h
      rw [putX_eq] at h
      exact ⟨_, _, .store hi ho, hw.set' hi, h⟩
  | cas k =>
    rcases xArgs_of h with ⟨_, h⟩ | ⟨_, _, h⟩ | ⟨_, _, _, h⟩ | ⟨p, o, y, rfl, h⟩ <;> try (cases h; done)
    obtain ⟨k1, o, rfl, h⟩ := vInt_of h
    obtain ⟨k2, y, rfl, h⟩ := vInt_of h
    obtain ⟨i, off, ro, es, n, z, c, rfl, hi, ho, h⟩ := cellX_of h
    obtain ⟨k3, x, hx, h⟩ := vInt_of h
    obtain ⟨hc, hK⟩ := brec_false h
    clear h
    simp only [Bool.and_eq_true, Bool.not_eq_true'] at hc
    obtain ⟨⟨⟨h1, h2⟩, h3⟩, h4⟩ := hc
    have hb := brec_or hK
    clear hK
    subst h4
    have := sameK_of h1
    subst this
    have := sameK_of h2
    subst this
    have := sameK_of h3
    subst this
    rcases hb with ⟨he, hK⟩ | ⟨he, hK⟩
    · simp at he
      rw [putX_eq] at hK
      rw [he] at hx
      exact ⟨_, _, .casHit hi ho hx, hw.set' hi, hK⟩
    · simp at he
      exact ⟨_, _, .casMiss hi ho hx he, Low.refl hw, hK⟩
  | mark0 m =>
    rcases xArgs_of h with ⟨rfl, h⟩ | ⟨_, _, h⟩ | ⟨_, _, _, h⟩ | ⟨_, _, _, _, h⟩ <;> try (cases h; done)
    exact ⟨_, _, .mark0, Low.refl hw, h⟩
  | markAt m =>
    rcases xArgs_of h with ⟨_, h⟩ | ⟨p, rfl, h⟩ | ⟨_, _, _, h⟩ | ⟨_, _, _, _, h⟩ <;> try (cases h; done)
    rcases vPtr_or h with ⟨i, off, rfl, h⟩ | h
    · exact ⟨_, _, .markAt, Low.refl hw, h⟩
    · cases h
  | add64 =>
    rcases xArgs_of h with ⟨_, h⟩ | ⟨_, _, h⟩ | ⟨_, _, _, h⟩ | ⟨x, y, c, rfl, h⟩ <;> try (cases h; done)
    obtain ⟨k1, x, rfl, h⟩ := vInt_of h
    obtain ⟨k2, y, rfl, h⟩ := vInt_of h
    obtain ⟨k3, c, rfl, h⟩ := vInt_of h
    obtain ⟨hc, hK⟩ := brec_false h
    clear h
    simp only [Bool.and_eq_true, decide_eq_true_eq] at hc
    obtain ⟨⟨⟨⟨⟨⟨h1, h2⟩, h3⟩, h4⟩, h5⟩, h6⟩, h7⟩ := hc
    have := sameK_of h1
    subst this
    have := sameK_of h2
    subst this
    have := sameK_of h3
    subst this
    rw [fI_eq, fI_eq] at hK
    exact ⟨_, _, .add64 h4 h5 h6 h7, Low.refl hw, hK⟩

def xtOf (xk : FuncId → Option XK) : XT := fun f args A K => Option.rec (motive := fun _ => Option Bool) none (fun k => some (xT k args A K)) (xk f)
theorem xtOf_ok {xk : FuncId → Option XK} : XOk (XOf xk) (xtOf xk) := by
  intro f args A K h hw
  unfold xtOf at h
  cases hk : xk f with
  | none => rw [hk] at h; cases h
  | some k =>
    rw [hk] at h
    obtain ⟨v, A', hr, hl, hK⟩ := xT_of (Option.some.inj h) hw
    exact ⟨v, A', ⟨k, hk, hr⟩, hl, hK⟩

end
end Go.Abs
