/- What a run leaves as it was: nothing below the mark 'lw' was turned. -/
import Derived.Test.YtbgcilmnenlheaaGreatA3
set_option linter.unusedSimpArgs false
set_option linter.unusedVariables false
namespace Go.Abs
open Go
variable {P : Program}

structure WF (A : AHeap) : Prop where
  lw : A.lw ≤ A.next
  none : ∀ j, A.next ≤ j → A.obj j = none

structure Low (A A' : AHeap) : Prop where
  wf : WF A'
  lw : A'.lw ≤ A.lw
  next : A.next ≤ A'.next
  same : ∀ j, j < A'.lw → A'.obj j = A.obj j

theorem Low.refl {A : AHeap} (h : WF A) : Low A A := ⟨h, Nat.le_refl _, Nat.le_refl _, fun _ _ => rfl⟩
theorem Low.trans {A B C : AHeap} (h : Low A B) (h' : Low B C) : Low A C :=
  ⟨h'.wf, Nat.le_trans h'.lw h.lw, Nat.le_trans h.next h'.next, fun j hj => (h'.same j hj).trans (h.same j (Nat.lt_of_lt_of_le hj h'.lw))⟩
theorem AHeap.lw_push (A : AHeap) (o : AObj) : (A.push o).lw = A.lw := rfl
theorem AHeap.lw_set (A : AHeap) (i : Nat) (o : AObj) : (A.set i o).lw = if i < A.lw then i else A.lw := by
  unfold AHeap.set
  simp only [cond_eq_ite]
  by_cases h : i < A.lw
  · rw [if_pos h, if_pos (by simp [Nat.blt]; omega)]
  · rw [if_neg h, if_neg (by simp [Nat.blt]; omega)]
theorem WF.push' {A : AHeap} (h : WF A) (o : AObj) : Low A (A.push o) := by
  refine ⟨⟨?_, fun j hj => ?_⟩, Nat.le_refl _, by simp, fun j hj => ?_⟩
  · rw [AHeap.lw_push, AHeap.next_push]; have := h.lw; omega
  · rw [AHeap.next_push] at hj
    rw [AHeap.obj_push, if_neg (by omega)]; exact h.none j (by omega)
  · rw [AHeap.lw_push] at hj
    have := h.lw
    rw [AHeap.obj_push, if_neg (by omega)]
theorem WF.lt {A : AHeap} (h : WF A) {i : Nat} {o : AObj} (e : A.obj i = some o) : i < A.next := by
  rcases Nat.lt_or_ge i A.next with h1 | h1
  · exact h1
  · rw [h.none i h1] at e; cases e
theorem WF.set' {A : AHeap} (h : WF A) {i : Nat} {o o' : AObj} (e : A.obj i = some o) : Low A (A.set i o') := by
  have hi := h.lt e
  have hl := h.lw
  refine ⟨⟨?_, fun j hj => ?_⟩, ?_, by simp, fun j hj => ?_⟩
  · rw [AHeap.lw_set, AHeap.next_set]; split <;> omega
  · rw [AHeap.next_set] at hj
    rw [AHeap.obj_set, if_neg (by omega)]; exact h.none j hj
  · rw [AHeap.lw_set]; split <;> omega
  · rw [AHeap.lw_set] at hj
    rw [AHeap.obj_set, if_neg]
    intro e; subst e; split at hj <;> omega
theorem WF.setPush {A : AHeap} (h : WF A) {i : Nat} {o o' p : AObj} (e : A.obj i = some o) : Low A ((A.set i o').push p) :=
  (h.set' e).trans ((h.set' e).wf.push' p)

theorem aAlloc_low {E : Env P} {t : TypeId} {A A' : AHeap} {v : Value} (h : aAlloc E t A = some (v, A')) (hw : WF A) : Low A A' := by
  unfold aAlloc at h
  split at h
  · cases h
  · split at h
    · cases h
    · split at h
      · cases h; first | exact Low.refl hw | exact hw.push' _ | (apply hw.set' <;> assumption) | (apply hw.setPush <;> assumption)
      · cases h
theorem aBuildSlice_low {E : Env P} {t : TypeId} {n : Nat} {ps : List (Nat × Value)} {A A' : AHeap} {v : Value} (h : aBuildSlice E t n ps A = some (v, A')) (hw : WF A) : Low A A' := by
  unfold aBuildSlice at h
  split at h
  · split at h
    · split at h
      · split at h
        · split at h
          · split at h
            · cases h; first | exact Low.refl hw | exact hw.push' _ | (apply hw.set' <;> assumption) | (apply hw.setPush <;> assumption)
            · cases h
          · cases h
        · cases h
      · cases h
    · cases h
  · cases h
theorem aMakeSlice_low {E : Env P} {t : TypeId} {x y : Value} {A A' : AHeap} {v : Value} (h : aMakeSlice E t x y A = some (v, A')) (hw : WF A) : Low A A' := by
  unfold aMakeSlice at h
  split at h
  · split at h
    · split at h
      · split at h
        · cases h; first | exact Low.refl hw | exact hw.push' _ | (apply hw.set' <;> assumption) | (apply hw.setPush <;> assumption)
        · cases h
      · cases h
    · cases h
  · cases h
theorem aStore_low {E : Env P} {t : TypeId} {x y : Value} {A A' : AHeap} (h : aStore E t x y A = some A') (hw : WF A) : Low A A' := by
  unfold aStore at h
  split at h
  · split at h
    · split at h
      · split at h
        · cases h; first | exact Low.refl hw | exact hw.push' _ | (apply hw.set' <;> assumption) | (apply hw.setPush <;> assumption)
        · cases h
      · cases h
    · cases h
  · cases h
theorem aMapUpdate_low {E : Env P} {t : TypeId} {x y z : Value} {A A' : AHeap} (h : aMapUpdate E t x y z A = some A') (hw : WF A) : Low A A' := by
  unfold aMapUpdate at h
  split at h
  · split at h
    · split at h
      · split at h
        · split at h
          · cases h; first | exact Low.refl hw | exact hw.push' _ | (apply hw.set' <;> assumption) | (apply hw.setPush <;> assumption)
          · cases h
        · cases h
      · cases h
    · cases h
  · cases h
theorem aCopy_low {E : Env P} {t : TypeId} {x y : Value} {A A' : AHeap} {v : Value} (h : aCopy E t x y A = some (v, A')) (hw : WF A) : Low A A' := by
  unfold aCopy at h
  split at h
  · split at h
    · split at h
      · split at h
        · cases h; first | exact Low.refl hw | exact hw.push' _ | (apply hw.set' <;> assumption) | (apply hw.setPush <;> assumption)
        · split at h
          · split at h
            · split at h
              · cases h; first | exact Low.refl hw | exact hw.push' _ | (apply hw.set' <;> assumption) | (apply hw.setPush <;> assumption)
              · cases h
            · cases h
          · cases h
      · cases h
    · cases h
  · cases h
theorem aAppend_low {E : Env P} {t tx : TypeId} {x y : Value} {A A' : AHeap} {v : Value} (h : aAppend E t tx x y A = some (v, A')) (hw : WF A) : Low A A' := by
  unfold aAppend at h
  split at h
  · split at h
    · split at h
      · split at h
        · split at h
          · split at h
            · cases h; first | exact Low.refl hw | exact hw.push' _ | (apply hw.set' <;> assumption) | (apply hw.setPush <;> assumption)
            · split at h
              · cases h; first | exact Low.refl hw | exact hw.push' _ | (apply hw.set' <;> assumption) | (apply hw.setPush <;> assumption)
              · cases h
          · split at h
            · cases h; first | exact Low.refl hw | exact hw.push' _ | (apply hw.set' <;> assumption) | (apply hw.setPush <;> assumption)
            · split at h
              · split at h
                · split at h
                  · cases h; first | exact Low.refl hw | exact hw.push' _ | (apply hw.set' <;> assumption) | (apply hw.setPush <;> assumption)
                  · cases h
                · split at h
                  · split at h
                    · split at h
                      · cases h; first | exact Low.refl hw | exact hw.push' _ | (apply hw.set' <;> assumption) | (apply hw.setPush <;> assumption)
                      · cases h
                    · split at h
                      · cases h; first | exact Low.refl hw | exact hw.push' _ | (apply hw.set' <;> assumption) | (apply hw.setPush <;> assumption)
                      · cases h
                  · cases h
              · cases h
          · cases h
        · cases h
      · cases h
    · cases h
  · cases h
theorem aBuiltin_low {E : Env P} {b : Builtin} {ts : Array TypeId} {args : List Value} {A A' : AHeap} {v : Value} (h : aBuiltin E b ts args A = some (v, A')) (hw : WF A) : Low A A' := by
  unfold aBuiltin at h
  split at h
  · obtain ⟨r, _, e⟩ := Option.map_eq_some_iff.1 h; cases e; exact Low.refl hw
  · obtain ⟨r, _, e⟩ := Option.map_eq_some_iff.1 h; cases e; exact Low.refl hw
  · exact aAppend_low h hw
  · exact aCopy_low h hw
  · obtain ⟨r, _, e⟩ := Option.map_eq_some_iff.1 h; cases e; exact Low.refl hw
  · obtain ⟨r, _, e⟩ := Option.map_eq_some_iff.1 h; cases e; exact Low.refl hw
  · cases h
theorem aop_low {E : Env P} {o : Oper} {ρ : Operand → Option Value} {A A' : AHeap} {v : Value} (h : aop E o ρ A = some (v, A')) (hw : WF A) : Low A A' := by
  unfold aop at h
  split at h
  all_goals first
    | exact aAlloc_low h hw
    | exact aMakeSlice_low h hw
    | (split at h
       all_goals first
        | (cases h; done)
        | exact aBuildSlice_low h hw
        | exact aMakeSlice_low h hw
        | (cases h; exact Low.refl hw)
        | (cases h; exact hw.push' _)
        | (split at h
           all_goals first
            | (cases h; done)
            | exact aBuiltin_low h hw
            | (cases h; exact Low.refl hw)
            | (rename_i hq; cases h; exact aStore_low hq hw)
            | (rename_i hq; cases h; exact aMapUpdate_low hq hw)))
    | (cases h; exact hw.push' _)
    | (cases h; done)


end Go.Abs

/- Forms for the kernel: continuations, recursors. -/
namespace Go.Abs
open Go
noncomputable section

/-! ### Forcing -/
def fN (n : Nat) (K : Nat → Bool) : Bool := Nat.rec (motive := fun _ => Bool) (K 0) (fun m _ => K (Nat.succ m)) n
def fI (i : Int) (K : Int → Bool) : Bool := Int.rec (motive := fun _ => Bool) (fun n => fN n fun n => K (.ofNat n)) (fun n => fN n fun n => K (.negSucc n)) i
def fB (b : Bool) (K : Bool → Bool) : Bool := Bool.rec (motive := fun _ => Bool) (K false) (K true) b
def fON (a : Option Nat) (K : Option Nat → Bool) : Bool := match a with
  | none => K none
  | some b => fN b fun b => K (some b)
def fOA (a : Option Addr) (K : Option Addr → Bool) : Bool := match a with
  | none => K none
  | some ⟨b, o, l⟩ => fN b fun b => fN o fun o => fON l fun l => K (some ⟨b, o, l⟩)
def fV1 (v : Value) (K : Value → Bool) : Bool := match v with
  | .bool b => fB b fun b => K (.bool b)
  | .int k n => fI n fun n => K (.int k n)
  | .pointer a => fOA a fun a => K (.pointer a)
  | .slice a l c => fOA a fun a => fN l fun l => fN c fun c => K (.slice a l c)
  | .map r => fON r fun r => K (.map r)
  | v => K v
def fVs (l : List Value) (K : List Value → Bool) : Bool := match l with
  | [] => K []
  | v :: r => fV1 v fun v => fVs r fun r => K (v :: r)
def fV (v : Value) (K : Value → Bool) : Bool := match v with
  | .agg ⟨l⟩ => fVs l fun l => K (.agg ⟨l⟩)
  | .tuple ⟨l⟩ => fVs l fun l => K (.tuple ⟨l⟩)
  | v => fV1 v K
def fA (A : AHeap) (K : AHeap → Bool) : Bool := match A with
  | ⟨t, n, l⟩ => fN n fun n => fN l fun l => match t with
    | .e => K ⟨.e, n, l⟩
    | .n a b c => K ⟨.n a b c, n, l⟩

theorem fN_eq (n : Nat) (K : Nat → Bool) : fN n K = K n := by cases n <;> rfl
theorem fI_eq (n : Int) (K : Int → Bool) : fI n K = K n := by
  cases n with
  | ofNat n => exact fN_eq n fun n => K (.ofNat n)
  | negSucc n => exact fN_eq n fun n => K (.negSucc n)
theorem fB_eq (b : Bool) (K : Bool → Bool) : fB b K = K b := by cases b <;> rfl
theorem fON_eq (a : Option Nat) (K : Option Nat → Bool) : fON a K = K a := by cases a with
  | none => rfl
  | some a => exact fN_eq a fun b => K (some b)
theorem fOA_eq (a : Option Addr) (K : Option Addr → Bool) : fOA a K = K a := by
  cases a with
  | none => rfl
  | some a => obtain ⟨b, o, l⟩ := a; simp only [fOA, fN_eq, fON_eq]
theorem fV1_eq (v : Value) (K : Value → Bool) : fV1 v K = K v := by
  cases v <;> simp only [fV1, fB_eq, fI_eq, fOA_eq, fON_eq, fN_eq]
theorem fVs_eq (l : List Value) (K : List Value → Bool) : fVs l K = K l := by
  induction l generalizing K with
  | nil => rfl
  | cons v r ih => simp only [fVs, fV1_eq, ih]
theorem fV_eq (v : Value) (K : Value → Bool) : fV v K = K v := by
  cases v with
  | agg cs => obtain ⟨l⟩ := cs; simp only [fV, fVs_eq]
  | tuple cs => obtain ⟨l⟩ := cs; simp only [fV, fVs_eq]
  | _ => simp only [fV, fV1_eq]
theorem fA_eq (A : AHeap) (K : AHeap → Bool) : fA A K = K A := by
  obtain ⟨t, n, l⟩ := A
  cases t <;> simp only [fA, fN_eq]

/-! ### Choices -/
/-- 'b' ? 't' : 'e' -/
abbrev brec (e t : Bool) (b : Bool) : Bool := Bool.rec (motive := fun _ => Bool) e t b
theorem brec_false {t b : Bool} (h : Bool.rec (motive := fun _ => Bool) false t b = true) : b = true ∧ t = true := by cases b <;> simp_all
theorem brec_or {e t b : Bool} (h : Bool.rec (motive := fun _ => Bool) e t b = true) : (b = true ∧ t = true) ∨ (b = false ∧ e = true) := by cases b <;> simp_all
theorem orec_false {α : Type} {K : α → Bool} {a : Option α} (h : Option.rec (motive := fun _ => Bool) false K a = true) : ∃ x, a = some x ∧ K x = true := by
  cases a with
  | none => cases h
  | some x => exact ⟨x, rfl, h⟩
theorem orec_or {α : Type} {D : Bool} {K : α → Bool} {a : Option α} (h : Option.rec (motive := fun _ => Bool) D K a = true) : (∃ x, a = some x ∧ K x = true) ∨ (a = none ∧ D = true) := by
  cases a with
  | none => exact .inr ⟨rfl, h⟩
  | some x => exact .inl ⟨x, rfl, h⟩

/-! ### What a value is -/
def vPtr (v : Value) : (Nat → Nat → Bool) → Bool → Bool :=
  Value.rec (motive_1 := fun _ => (Nat → Nat → Bool) → Bool → Bool) (motive_2 := fun _ => Unit) (motive_3 := fun _ => Unit)
    (fun _ _ D => D) (fun _ _ _ D => D) (fun _ _ _ D => D) (fun _ _ _ _ D => D) (fun _ _ D => D)
    (fun a K D => Option.rec (motive := fun _ => Bool) D (fun a => Addr.rec (motive := fun _ => Bool) (fun i off sp => Option.rec (motive := fun _ => Bool) (K i off) (fun _ => D) sp) a) a)
    (fun _ _ _ _ D => D) (fun _ _ D => D) (fun _ _ D => D) (fun _ _ _ _ _ _ D => D) (fun _ D => D) (fun _ _ _ _ D => D) (fun _ D => D) (fun _ _ _ D => D) (fun _ _ _ D => D) (fun _ _ => ()) () (fun _ _ _ _ => ()) v
def vInt (v : Value) : (IntKind → Int → Bool) → Bool → Bool :=
  Value.rec (motive_1 := fun _ => (IntKind → Int → Bool) → Bool → Bool) (motive_2 := fun _ => Unit) (motive_3 := fun _ => Unit)
    (fun _ _ D => D) (fun k n K _ => K k n) (fun _ _ _ D => D) (fun _ _ _ _ D => D) (fun _ _ D => D)
    (fun _ _ D => D)
    (fun _ _ _ _ D => D) (fun _ _ D => D) (fun _ _ D => D) (fun _ _ _ _ _ _ D => D) (fun _ D => D) (fun _ _ _ _ D => D) (fun _ D => D) (fun _ _ _ D => D) (fun _ _ _ D => D) (fun _ _ => ()) () (fun _ _ _ _ => ()) v
def vBool (v : Value) : (Bool → Bool) → Bool → Bool :=
  Value.rec (motive_1 := fun _ => (Bool → Bool) → Bool → Bool) (motive_2 := fun _ => Unit) (motive_3 := fun _ => Unit)
    (fun b K _ => K b) (fun _ _ _ D => D) (fun _ _ _ D => D) (fun _ _ _ _ D => D) (fun _ _ D => D)
    (fun _ _ D => D)
    (fun _ _ _ _ D => D) (fun _ _ D => D) (fun _ _ D => D) (fun _ _ _ _ _ _ D => D) (fun _ D => D) (fun _ _ _ _ D => D) (fun _ D => D) (fun _ _ _ D => D) (fun _ _ _ D => D) (fun _ _ => ()) () (fun _ _ _ _ => ()) v
def vSlice (v : Value) : (Option Addr → Nat → Nat → Bool) → Bool → Bool :=
  Value.rec (motive_1 := fun _ => (Option Addr → Nat → Nat → Bool) → Bool → Bool) (motive_2 := fun _ => Unit) (motive_3 := fun _ => Unit)
    (fun _ _ D => D) (fun _ _ _ D => D) (fun _ _ _ D => D) (fun _ _ _ _ D => D) (fun _ _ D => D)
    (fun _ _ D => D)
    (fun a l c K _ => K a l c) (fun _ _ D => D) (fun _ _ D => D) (fun _ _ _ _ _ _ D => D) (fun _ D => D) (fun _ _ _ _ D => D) (fun _ D => D) (fun _ _ _ D => D) (fun _ _ _ D => D) (fun _ _ => ()) () (fun _ _ _ _ => ()) v
def vFunc (v : Value) : (Fn → Array Value → Array Value → Bool) → Bool :=
  Value.rec (motive_1 := fun _ => (Fn → Array Value → Array Value → Bool) → Bool) (motive_2 := fun _ => Unit) (motive_3 := fun _ => Unit)
    (fun _ _ => false) (fun _ _ _ => false) (fun _ _ _ => false) (fun _ _ _ _ => false) (fun _ _ => false)
    (fun _ _ => false)
    (fun _ _ _ _ => false) (fun _ _ => false) (fun _ _ => false) (fun f a c _ _ K => K f a c) (fun _ => false) (fun _ _ _ _ => false) (fun _ => false) (fun _ _ _ => false) (fun _ _ _ => false) (fun _ _ => ()) () (fun _ _ _ _ => ()) v
/-- Is it one cell? -/
def vOne (v : Value) : Bool :=
  Value.rec (motive_1 := fun _ => Bool) (motive_2 := fun _ => Unit) (motive_3 := fun _ => Unit)
    (fun _ => true) (fun _ _ => true) (fun _ _ => true) (fun _ _ _ => true) (fun _ => true)
    (fun _ => true)
    (fun _ _ _ => true) (fun _ => true) (fun _ => true) (fun _ _ _ _ _ => true) true (fun _ _ _ => true) true (fun _ _ => false) (fun _ _ => false) (fun _ _ => ()) () (fun _ _ _ _ => ()) v
def iNat (i : Int) (K : Nat → Bool) (D : Bool) : Bool := Int.rec (motive := fun _ => Bool) K (fun _ => D) i

theorem vPtr_or {v : Value} {K : Nat → Nat → Bool} {D : Bool} (h : vPtr v K D = true) : (∃ i off, v = .pointer (some ⟨i, off, none⟩) ∧ K i off = true) ∨ D = true := by
  cases v with
  | pointer a =>
    cases a with
    | none => exact .inr h
    | some a =>
      obtain ⟨i, off, sp⟩ := a
      cases sp with
      | none => exact .inl ⟨i, off, rfl, h⟩
      | some s => exact .inr h
  | _ => exact .inr h
theorem vInt_or {v : Value} {K : IntKind → Int → Bool} {D : Bool} (h : vInt v K D = true) : (∃ k n, v = .int k n ∧ K k n = true) ∨ D = true := by
  cases v with
  | int k n => exact .inl ⟨k, n, rfl, h⟩
  | _ => exact .inr h
theorem vBool_or {v : Value} {K : Bool → Bool} {D : Bool} (h : vBool v K D = true) : (∃ b, v = .bool b ∧ K b = true) ∨ D = true := by
  cases v with
  | bool b => exact .inl ⟨b, rfl, h⟩
  | _ => exact .inr h
theorem vSlice_or {v : Value} {K : Option Addr → Nat → Nat → Bool} {D : Bool} (h : vSlice v K D = true) : (∃ a l c, v = .slice a l c ∧ K a l c = true) ∨ D = true := by
  cases v with
  | slice a l c => exact .inl ⟨a, l, c, rfl, h⟩
  | _ => exact .inr h
theorem vFunc_of {v : Value} {K : Fn → Array Value → Array Value → Bool} (h : vFunc v K = true) : ∃ f a c, v = .func f a c ∧ K f a c = true := by
  cases v with
  | func f a c => exact ⟨f, a, c, rfl, h⟩
  | _ => cases h
theorem vOne_of {v : Value} (h : vOne v = true) : v.cells = #[v] ∧ Value.oneCell' v = true := by
  cases v with
  | agg | tuple => cases h
  | _ => exact ⟨rfl, rfl⟩
theorem iNat_or {i : Int} {K : Nat → Bool} {D : Bool} (h : iNat i K D = true) : (∃ n : Nat, i = Int.ofNat n ∧ K n = true) ∨ D = true := by
  cases i with
  | ofNat n => exact .inl ⟨n, rfl, h⟩
  | negSucc n => exact .inr h

/-! ### The trie -/
def T.getK {α : Type} (t : T α) : Nat → (α → Bool) → Bool → Bool :=
  T.rec (motive := fun _ => Nat → (α → Bool) → Bool → Bool) (fun _ _ D => D)
    (fun _ v _ l r k K D => Nat.rec (motive := fun _ => Bool) (Option.rec (motive := fun _ => Bool) D K v)
      (fun k _ => Bool.rec (motive := fun _ => Bool) (r (Nat.div k 2) K D) (l (Nat.div k 2) K D) (Nat.beq (Nat.mod k 2) 0)) k) t
def T.sK {α : Type} (f : Nat) : Nat → α → (T α → Bool) → Bool :=
  Nat.rec (motive := fun _ => Nat → α → (T α → Bool) → Bool) (fun _ _ K => K .e)
    (fun _ ih k v K => Nat.rec (motive := fun _ => Bool) (K (.n .e (some v) .e)) (fun k _ => Bool.rec (motive := fun _ => Bool)
      (ih (Nat.div k 2) v (fun t => K (.n .e none t))) (ih (Nat.div k 2) v (fun t => K (.n t none .e))) (Nat.beq (Nat.mod k 2) 0)) k) f
def T.setC {α : Type} (t : T α) : Nat → α → (T α → Bool) → Bool :=
  T.rec (motive := fun _ => Nat → α → (T α → Bool) → Bool) (fun k v K => T.sK (Nat.succ k) k v K)
    (fun l x r ihl ihr k v K => Nat.rec (motive := fun _ => Bool) (K (.n l (some v) r)) (fun k _ => Bool.rec (motive := fun _ => Bool)
      (ihr (Nat.div k 2) v (fun t => K (.n l x t))) (ihl (Nat.div k 2) v (fun t => K (.n t x r))) (Nat.beq (Nat.mod k 2) 0)) k) t

theorem T.getK_eq {α : Type} (t : T α) (k : Nat) (K : α → Bool) (D : Bool) : t.getK k K D = match t.get k with | some v => K v | none => D := by
  induction t generalizing k with
  | e => rw [T.get_e]; rfl
  | n l x r ihl ihr =>
    cases k with
    | zero => cases x <;> rfl
    | succ k =>
      rcases Nat.mod_two_eq_zero_or_one k with hk | hk
      · have e : (T.n l x r).getK (k + 1) K D = l.getK (k / 2) K D := by
          show Bool.rec (motive := fun _ => Bool) (r.getK (k / 2) K D) (l.getK (k / 2) K D) (Nat.beq (k % 2) 0) = _
          rw [hk]; rfl
        rw [e, ihl]; simp only [T.get, hk]
      · have e : (T.n l x r).getK (k + 1) K D = r.getK (k / 2) K D := by
          show Bool.rec (motive := fun _ => Bool) (r.getK (k / 2) K D) (l.getK (k / 2) K D) (Nat.beq (k % 2) 0) = _
          rw [hk]; rfl
        rw [e, ihr]; simp only [T.get, hk]
theorem T.sK_eq {α : Type} (f k : Nat) (v : α) (K : T α → Bool) : T.sK f k v K = K (T.single f k v) := by
  induction f generalizing k K with
  | zero => rfl
  | succ f ih =>
    cases k with
    | zero => rfl
    | succ k =>
      rcases Nat.mod_two_eq_zero_or_one k with hk | hk
      · have e : T.sK (f + 1) (k + 1) v K = T.sK f (k / 2) v (fun t => K (.n t none .e)) := by
          show Bool.rec (motive := fun _ => Bool) (T.sK f (k / 2) v (fun t => K (.n .e none t))) (T.sK f (k / 2) v (fun t => K (.n t none .e))) (Nat.beq (k % 2) 0) = _
          rw [hk]; rfl
        rw [e, ih]; simp only [T.single, hk]
      · have e : T.sK (f + 1) (k + 1) v K = T.sK f (k / 2) v (fun t => K (.n .e none t)) := by
          show Bool.rec (motive := fun _ => Bool) (T.sK f (k / 2) v (fun t => K (.n .e none t))) (T.sK f (k / 2) v (fun t => K (.n t none .e))) (Nat.beq (k % 2) 0) = _
          rw [hk]; rfl
        rw [e, ih]; simp only [T.single, hk]
theorem T.setC_eq {α : Type} (t : T α) (k : Nat) (v : α) (K : T α → Bool) : t.setC k v K = K (t.set k v) := by
  induction t generalizing k K with
  | e => exact T.sK_eq (Nat.succ k) k v K
  | n l x r ihl ihr =>
    cases k with
    | zero => rfl
    | succ k =>
      rcases Nat.mod_two_eq_zero_or_one k with hk | hk
      · have e : (T.n l x r).setC (k + 1) v K = l.setC (k / 2) v (fun t => K (.n t x r)) := by
          show Bool.rec (motive := fun _ => Bool) (r.setC (k / 2) v (fun t => K (.n l x t))) (l.setC (k / 2) v (fun t => K (.n t x r))) (Nat.beq (k % 2) 0) = _
          rw [hk]; rfl
        rw [e, ihl]; simp only [T.set, hk]
      · have e : (T.n l x r).setC (k + 1) v K = r.setC (k / 2) v (fun t => K (.n l x t)) := by
          show Bool.rec (motive := fun _ => Bool) (r.setC (k / 2) v (fun t => K (.n l x t))) (l.setC (k / 2) v (fun t => K (.n t x r))) (Nat.beq (k % 2) 0) = _
          rw [hk]; rfl
        rw [e, ihr]; simp only [T.set, hk]

theorem T.getK_false {α : Type} {t : T α} {k : Nat} {K : α → Bool} (h : t.getK k K false = true) : ∃ v, t.get k = some v ∧ K v = true := by
  rw [T.getK_eq] at h
  cases e : t.get k with
  | none => rw [e] at h; cases h
  | some v => rw [e] at h; exact ⟨v, rfl, h⟩

/-! ### Objects -/
def obK (ob : AObj) : (Bool → Nat → Nat → List Value → T Value → Bool) → Bool :=
  AObj.rec (motive := fun _ => (Bool → Nat → Nat → List Value → T Value → Bool) → Bool) (fun ro es n z c K => K ro es n z c) (fun _ _ => false) (fun _ _ => false) (fun _ => false) (fun _ => false) ob
theorem obK_of {ob : AObj} {K : Bool → Nat → Nat → List Value → T Value → Bool} (h : obK ob K = true) : ∃ ro es n z c, ob = .cells ro es n z c ∧ K ro es n z c = true := by
  cases ob with
  | cells ro es n z c => exact ⟨ro, es, n, z, c, rfl, h⟩
  | _ => cases h
def setH (A : AHeap) (i : Nat) (ob : AObj) (K : AHeap → Bool) : Bool :=
  AHeap.rec (motive := fun _ => Bool) (fun t n lw => t.setC i ob fun t => Bool.rec (motive := fun _ => Bool) (K ⟨t, n, lw⟩) (K ⟨t, n, i⟩) (Nat.blt i lw)) A
theorem setH_eq (A : AHeap) (i : Nat) (ob : AObj) (K : AHeap → Bool) : setH A i ob K = K (A.set i ob) := by
  obtain ⟨t, n, lw⟩ := A
  show t.setC i ob _ = _
  rw [T.setC_eq]
  unfold AHeap.set
  cases Nat.blt i lw <;> rfl

end
end Go.Abs

/- The operations of the evaluator: numbers. -/
namespace Go.Abs
open Go
noncomputable section

def kidx (k : IntKind) : Nat := IntKind.rec (motive := fun _ => Nat) 0 1 2 3 4 5 6 7 k
def kbits (k : IntKind) : Nat := IntKind.rec (motive := fun _ => Nat) 8 16 32 64 8 16 32 64 k
def kmod (k : IntKind) : Nat := IntKind.rec (motive := fun _ => Nat) 256 65536 4294967296 18446744073709551616 256 65536 4294967296 18446744073709551616 k
theorem kidx_inj {k k' : IntKind} (h : Nat.beq (kidx k) (kidx k') = true) : k = k' := by
  cases k <;> cases k' <;> first | rfl | exact absurd h (by decide)
theorem kbits_eq (k : IntKind) : kbits k = k.bits := by cases k <;> rfl
theorem kmod_eq (k : IntKind) : kmod k = 2 ^ k.bits := by cases k <;> rfl

def wrapK (k : IntKind) : Nat → (Int → Bool) → Bool :=
  IntKind.rec (motive := fun _ => Nat → (Int → Bool) → Bool)
    (fun n K => Bool.rec (motive := fun _ => Bool) (fI (IntKind.i8.wrap (.ofNat n)) K) (K (.ofNat n)) (Nat.blt n 128))
    (fun n K => Bool.rec (motive := fun _ => Bool) (fI (IntKind.i16.wrap (.ofNat n)) K) (K (.ofNat n)) (Nat.blt n 32768))
    (fun n K => Bool.rec (motive := fun _ => Bool) (fI (IntKind.i32.wrap (.ofNat n)) K) (K (.ofNat n)) (Nat.blt n 2147483648))
    (fun n K => Bool.rec (motive := fun _ => Bool) (fI (IntKind.i64.wrap (.ofNat n)) K) (K (.ofNat n)) (Nat.blt n 9223372036854775808))
    (fun n K => K (.ofNat (Nat.mod n 256))) (fun n K => K (.ofNat (Nat.mod n 65536))) (fun n K => K (.ofNat (Nat.mod n 4294967296))) (fun n K => K (.ofNat (Nat.mod n 18446744073709551616))) k

theorem wrap_small {k : IntKind} {n : Nat} (h : n < 2 ^ (k.bits - 1)) : k.wrap (.ofNat n) = .ofNat n := by
  have hn : ((Int.ofNat n : Int)) % (2 ^ k.bits : Int) = Int.ofNat n := by
    have h2 : n < 2 ^ k.bits := Nat.lt_of_lt_of_le h (Nat.pow_le_pow_right (by omega) (by omega))
    have h3 : ((2 : Int) ^ k.bits) = ((2 ^ k.bits : Nat) : Int) := by simp
    rw [h3]
    exact Int.emod_eq_of_lt (Int.natCast_nonneg n) (by show ((n : Nat) : Int) < ((2 ^ k.bits : Nat) : Int); exact Int.ofNat_lt.2 h2)
  have h4 : ((2 : Int) ^ (k.bits - 1)) = ((2 ^ (k.bits - 1) : Nat) : Int) := by simp
  unfold IntKind.wrap
  rw [hn]
  rw [if_neg]
  simp only [Bool.and_eq_true, decide_eq_true_eq, not_and]
  intro _ h'
  rw [ge_iff_le, h4] at h'
  have : (2 ^ (k.bits - 1) : Nat) ≤ n := Int.ofNat_le.1 h'
  omega
theorem wrap_unsigned {k : IntKind} {n : Nat} (h : k.signed = false) : k.wrap (.ofNat n) = .ofNat (n % 2 ^ k.bits) := by
  unfold IntKind.wrap
  simp only [h, Bool.false_and, Bool.false_eq_true, if_false]
  have h3 : ((2 : Int) ^ k.bits) = ((2 ^ k.bits : Nat) : Int) := by simp
  rw [h3]
  rfl
theorem wrapK_eq (k : IntKind) (n : Nat) (K : Int → Bool) : wrapK k n K = K (k.wrap (.ofNat n)) := by
  have signed : ∀ (k : IntKind) (m : Nat), m = 2 ^ (k.bits - 1) → Bool.rec (motive := fun _ => Bool) (fI (k.wrap (.ofNat n)) K) (K (.ofNat n)) (Nat.blt n m) = K (k.wrap (.ofNat n)) := by
    intro k m hm
    cases hb : Nat.blt n m with
    | false => exact fI_eq _ _
    | true =>
      have : n < 2 ^ (k.bits - 1) := by rw [← hm]; exact Nat.lt_of_succ_le (Nat.le_of_ble_eq_true hb)
      rw [wrap_small this]
  cases k with
  | i8 => exact signed .i8 128 rfl
  | i16 => exact signed .i16 32768 rfl
  | i32 => exact signed .i32 2147483648 rfl
  | i64 => exact signed .i64 9223372036854775808 rfl
  | u8 => rw [wrap_unsigned rfl]; rfl
  | u16 => rw [wrap_unsigned rfl]; rfl
  | u32 => rw [wrap_unsigned rfl]; rfl
  | u64 => rw [wrap_unsigned rfl]; rfl

/-- An operator at two numbers that are not below 0. -/
def arith (op : BinOp) : IntKind → Nat → Nat → (Value → Bool) → Bool → Bool :=
  BinOp.rec (motive := fun _ => IntKind → Nat → Nat → (Value → Bool) → Bool → Bool)
    (fun k a b K _ => wrapK k (Nat.add a b) fun n => K (.int k n))
    (fun k a b K D => Bool.rec (motive := fun _ => Bool) D (wrapK k (Nat.sub a b) fun n => K (.int k n)) (Nat.ble b a))
    (fun k a b K _ => wrapK k (Nat.mul a b) fun n => K (.int k n))
    (fun k a b K _ => Bool.rec (motive := fun _ => Bool) (wrapK k (Nat.div a b) fun n => K (.int k n)) false (Nat.beq b 0))
    (fun k a b K _ => Bool.rec (motive := fun _ => Bool) (K (.int k (.ofNat (Nat.mod a b)))) false (Nat.beq b 0))
    (fun k a b K _ => wrapK k (Nat.land (Nat.mod a (kmod k)) (Nat.mod b (kmod k))) fun n => K (.int k n))
    (fun k a b K _ => wrapK k (Nat.lor (Nat.mod a (kmod k)) (Nat.mod b (kmod k))) fun n => K (.int k n))
    (fun k a b K _ => wrapK k (Nat.xor (Nat.mod a (kmod k)) (Nat.mod b (kmod k))) fun n => K (.int k n))
    (fun k a b K _ => wrapK k (Nat.mul a (Nat.pow 2 (Bool.rec (motive := fun _ => Nat) (kbits k) b (Nat.ble b (kbits k))))) fun n => K (.int k n))
    (fun k a b K _ => K (.int k (.ofNat (Nat.div a (Nat.pow 2 (Bool.rec (motive := fun _ => Nat) (kbits k) b (Nat.ble b (kbits k))))))))
    (fun _ _ _ _ D => D)
    (fun _ a b K _ => Bool.rec (motive := fun _ => Bool) (K (.bool false)) (K (.bool true)) (Nat.beq a b))
    (fun _ a b K _ => Bool.rec (motive := fun _ => Bool) (K (.bool true)) (K (.bool false)) (Nat.beq a b))
    (fun _ a b K _ => Bool.rec (motive := fun _ => Bool) (K (.bool false)) (K (.bool true)) (Nat.blt a b))
    (fun _ a b K _ => Bool.rec (motive := fun _ => Bool) (K (.bool false)) (K (.bool true)) (Nat.ble a b))
    (fun _ a b K _ => Bool.rec (motive := fun _ => Bool) (K (.bool false)) (K (.bool true)) (Nat.blt b a))
    (fun _ a b K _ => Bool.rec (motive := fun _ => Bool) (K (.bool false)) (K (.bool true)) (Nat.ble b a)) op
def shiftOp (op : BinOp) : Bool := match op with
  | .shl | .shr => true
  | _ => false

theorem min_rec (b n : Nat) : (Bool.rec (motive := fun _ => Nat) n b (Nat.ble b n)) = min b n := by
  cases h : Nat.ble b n with
  | true => have := Nat.le_of_ble_eq_true h; show b = _; omega
  | false =>
    have : ¬ b ≤ n := fun h' => by rw [Nat.ble_eq_true_of_le h'] at h; cases h
    show n = _; omega
theorem bool_K {K : Value → Bool} {b : Bool} (h : Bool.rec (motive := fun _ => Bool) (K (.bool false)) (K (.bool true)) b = true) : K (.bool b) = true := by cases b <;> exact h
theorem bool_K' {K : Value → Bool} {b : Bool} (h : Bool.rec (motive := fun _ => Bool) (K (.bool true)) (K (.bool false)) b = true) : K (.bool !b) = true := by cases b <;> exact h

theorem arith_ok {op : BinOp} {k : IntKind} {a b : Nat} {K : Value → Bool} {D : Bool} (h : arith op k a b K D = true) :
    D = true ∨ (shiftOp op = false ∧ ∃ v, aInt op k (.ofNat a) (.ofNat b) = some v ∧ K v = true) ∨ (shiftOp op = true ∧ ∃ v, aShift op k (.ofNat a) (.ofNat b) = some v ∧ K v = true) := by
  have hM : ∀ x : Nat, (BitVec.ofInt k.bits (Int.ofNat x)).toNat = Nat.mod x (kmod k) := fun x => by
    rw [kmod_eq, show Int.ofNat x = ((x : Nat) : Int) from rfl, BitVec.ofInt_natCast, BitVec.toNat_ofNat]; rfl
  cases op with
  | add =>
    refine .inr (.inl ⟨rfl, _, rfl, ?_⟩)
    exact (wrapK_eq k (a + b) fun n => K (.int k n)) ▸ h
  | sub =>
    rcases brec_or h with ⟨hb, h⟩ | ⟨_, h⟩
    · refine .inr (.inl ⟨rfl, _, rfl, ?_⟩)
      have hle := Nat.le_of_ble_eq_true hb
      have e : (Int.ofNat a - Int.ofNat b : Int) = Int.ofNat (a - b) := by
        show ((a : Int) - (b : Int)) = ((a - b : Nat) : Int); omega
      rw [e]
      exact (wrapK_eq k (a - b) fun n => K (.int k n)) ▸ h
    · exact .inl h
  | mul =>
    refine .inr (.inl ⟨rfl, _, rfl, ?_⟩)
    exact (wrapK_eq k (a * b) fun n => K (.int k n)) ▸ h
  | quo =>
    rcases brec_or h with ⟨_, h⟩ | ⟨hb, h⟩
    · cases h
    · have hb0 : (Int.ofNat b : Int) ≠ 0 := fun e => by
        have : b = 0 := Int.ofNat.inj e
        subst this; cases hb
      refine .inr (.inl ⟨rfl, _, by simp only [aInt]; rw [if_neg hb0], ?_⟩)
      exact (wrapK_eq k (a / b) fun n => K (.int k n)) ▸ h
  | rem =>
    rcases brec_or h with ⟨_, h⟩ | ⟨hb, h⟩
    · cases h
    · have hb0 : (Int.ofNat b : Int) ≠ 0 := fun e => by
        have : b = 0 := Int.ofNat.inj e
        subst this; cases hb
      exact .inr (.inl ⟨rfl, .int k (.ofNat (Nat.mod a b)), by simp only [aInt]; rw [if_neg hb0]; rfl, h⟩)
  | and =>
    refine .inr (.inl ⟨rfl, _, rfl, ?_⟩)
    rw [BitVec.toNat_and, hM, hM]
    exact (wrapK_eq k _ fun n => K (.int k n)) ▸ h
  | or =>
    refine .inr (.inl ⟨rfl, _, rfl, ?_⟩)
    rw [BitVec.toNat_or, hM, hM]
    exact (wrapK_eq k _ fun n => K (.int k n)) ▸ h
  | xor =>
    refine .inr (.inl ⟨rfl, _, rfl, ?_⟩)
    rw [BitVec.toNat_xor, hM, hM]
    exact (wrapK_eq k _ fun n => K (.int k n)) ▸ h
  | shl =>
    refine .inr (.inr ⟨rfl, _, by unfold aShift; rw [if_neg (by exact Int.not_lt.2 (Int.natCast_nonneg b))], ?_⟩)
    have e : (Int.ofNat a * 2 ^ min (Int.ofNat b).toNat k.bits : Int) = Int.ofNat (a * 2 ^ min b k.bits) := by
      show ((a : Int) * 2 ^ min ((b : Int)).toNat k.bits) = ((a * 2 ^ min b k.bits : Nat) : Int)
      simp
    rw [e]
    have h' : wrapK k (Nat.mul a (Nat.pow 2 (Bool.rec (motive := fun _ => Nat) (kbits k) b (Nat.ble b (kbits k))))) (fun n => K (.int k n)) = true := h
    rw [min_rec, kbits_eq, wrapK_eq] at h'
    exact h'
  | shr =>
    refine .inr (.inr ⟨rfl, _, by unfold aShift; rw [if_neg (by exact Int.not_lt.2 (Int.natCast_nonneg b))], ?_⟩)
    have e : (Int.fdiv (Int.ofNat a) (2 ^ min (Int.ofNat b).toNat k.bits) : Int) = Int.ofNat (a / 2 ^ min b k.bits) := by
      have h3 : ((2 : Int) ^ min (Int.ofNat b).toNat k.bits) = Int.ofNat (2 ^ min b k.bits) := by
        show _ = ((2 ^ min b k.bits : Nat) : Int)
        simp
      rw [h3]
      cases a with
      | zero => simp
      | succ a => rfl
    rw [e]
    have h' : K (.int k (.ofNat (Nat.div a (Nat.pow 2 (Bool.rec (motive := fun _ => Nat) (kbits k) b (Nat.ble b (kbits k))))))) = true := h
    rw [min_rec, kbits_eq] at h'
    exact h'
  | andNot => exact .inl h
  | eql =>
    refine .inr (.inl ⟨rfl, _, rfl, ?_⟩)
    have e : ((Int.ofNat a == Int.ofNat b) : Bool) = Nat.beq a b := by
      rw [Bool.eq_iff_iff]; simp; exact Int.ofNat_inj
    rw [e]; exact bool_K h
  | neq =>
    refine .inr (.inl ⟨rfl, _, rfl, ?_⟩)
    have e : ((Int.ofNat a != Int.ofNat b) : Bool) = !(Nat.beq a b) := by
      show (!(Int.ofNat a == Int.ofNat b)) = _
      congr 1
      rw [Bool.eq_iff_iff]; simp; exact Int.ofNat_inj
    rw [e]; exact bool_K' h
  | lss =>
    refine .inr (.inl ⟨rfl, _, rfl, ?_⟩)
    have e : (decide (Int.ofNat a < Int.ofNat b) : Bool) = Nat.blt a b := by
      rw [Bool.eq_iff_iff]; simp [Nat.blt]; omega
    rw [e]; exact bool_K h
  | leq =>
    refine .inr (.inl ⟨rfl, _, rfl, ?_⟩)
    have e : (decide (Int.ofNat a ≤ Int.ofNat b) : Bool) = Nat.ble a b := by
      rw [Bool.eq_iff_iff]; simp
    rw [e]; exact bool_K h
  | gtr =>
    refine .inr (.inl ⟨rfl, _, rfl, ?_⟩)
    have e : (decide (Int.ofNat a > Int.ofNat b) : Bool) = Nat.blt b a := by
      rw [Bool.eq_iff_iff]; simp [Nat.blt]; omega
    rw [e]; exact bool_K h
  | geq =>
    refine .inr (.inl ⟨rfl, _, rfl, ?_⟩)
    have e : (decide (Int.ofNat a ≥ Int.ofNat b) : Bool) = Nat.ble b a := by
      rw [Bool.eq_iff_iff]; simp
    rw [e]; exact bool_K h

end
end Go.Abs

/- The operations of the evaluator. -/
namespace Go.Abs
open Go
noncomputable section

structure Ctx where
  fn : FuncId
  rd : Option Nat
  n : Nat
  ds : List Deferred
def Ctx.st (c : Ctx) (tm : T Value) : St := ⟨c.fn, c.rd, c.n, tm, c.ds⟩

abbrev KV := Value → AHeap → Bool
abbrev App := Value → List Value → AHeap → KV → Bool
abbrev KT := Ctx → T Value → AHeap → Bool
abbrev KX := AExit → Ctx → T Value → AHeap → Bool

def opE (tm : T Value) : Operand → Option Value
  | .tmp t => some ((tm.get t).getD undef)
  | .const v => if flat v then some v else none
  | .func f => some (.func (.func f) #[] #[])
  | .global _ => none
theorem opE_ev (c : Ctx) (tm : T Value) : (c.st tm).ev = opE tm := by funext x; cases x <;> rfl

def opK (x : Operand) : T Value → (Value → Bool) → Bool :=
  Operand.rec (motive := fun _ => T Value → (Value → Bool) → Bool) (fun t tm K => tm.getK t K (K undef)) (fun v _ K => Bool.rec (motive := fun _ => Bool) false (K v) (flat v)) (fun _ _ _ => false)
    (fun f _ K => K (.func (.func f) #[] #[])) x
theorem opK_of {x : Operand} {tm : T Value} {K : Value → Bool} (h : opK x tm K = true) : ∃ v, opE tm x = some v ∧ K v = true := by
  cases x with
  | tmp t =>
    have h' : tm.getK t K (K undef) = true := h
    rw [T.getK_eq] at h'
    refine ⟨_, rfl, ?_⟩
    cases e : tm.get t with
    | none => rw [e] at h'; exact h'
    | some v => rw [e] at h'; exact h'
  | const v =>
    obtain ⟨hf, h'⟩ := brec_false h
    exact ⟨v, by simp only [opE]; rw [if_pos hf], h'⟩
  | global g => cases h
  | func f => exact ⟨_, rfl, h⟩

def putT (n : Nat) (tm : T Value) (dst : Option Tmp) (v : Value) : Option (T Value) :=
  match dst with
  | none => some tm
  | some d => if d < n then some (tm.set d v) else none
theorem put_st (c : Ctx) (tm tm' : T Value) (dst : Option Tmp) (v : Value) (h : putT c.n tm dst v = some tm') : (c.st tm).put dst v = some (c.st tm') := by
  unfold putT at h
  unfold St.put
  split at h
  · cases h; rfl
  · split at h
    · rename_i hd; cases h; exact if_pos hd
    · cases h
def putC (n : Nat) (tm : T Value) (dst : Option Tmp) (v : Value) (K : T Value → Bool) : Bool :=
  Option.rec (motive := fun _ => Bool) (K tm) (fun d => Bool.rec (motive := fun _ => Bool) false (tm.setC d v K) (Nat.blt d n)) dst
theorem putC_of {n : Nat} {tm : T Value} {dst : Option Tmp} {v : Value} {K : T Value → Bool} (h : putC n tm dst v K = true) : ∃ tm', putT n tm dst v = some tm' ∧ K tm' = true := by
  cases dst with
  | none => exact ⟨tm, rfl, h⟩
  | some d =>
    obtain ⟨hd, h'⟩ := brec_false h
    rw [T.setC_eq] at h'
    exact ⟨_, by simp only [putT]; rw [if_pos (Nat.lt_of_succ_le (Nat.le_of_ble_eq_true hd))], h'⟩

def opsK (l : List Operand) : T Value → (List Value → Bool) → Bool :=
  List.rec (motive := fun _ => T Value → (List Value → Bool) → Bool) (fun _ K => K []) (fun x _ ih tm K => opK x tm fun v => ih tm fun r => K (v :: r)) l
theorem opsK_of {l : List Operand} {tm : T Value} {K : List Value → Bool} (h : opsK l tm K = true) : ∃ vs, evList (opE tm) l = some vs ∧ K vs = true := by
  induction l generalizing K with
  | nil => exact ⟨[], rfl, h⟩
  | cons x r ih =>
    obtain ⟨v, hv, h1⟩ := opK_of (x := x) (K := fun v => opsK r tm fun r => K (v :: r)) h
    obtain ⟨vs, hvs, h2⟩ := ih (K := fun r => K (v :: r)) h1
    exact ⟨v :: vs, by simp only [evList, hv, hvs], h2⟩

variable {P : Program}
abbrev H (P : Program) := Env P → Oper → App → Ctx → T Value → AHeap → KT → Bool

def done (o : Oper) (c : Ctx) (tm : T Value) (A : AHeap) (K : KT) (v : Value) : Bool := putC c.n tm o.dst v fun tm => K c tm A
theorem done_of {o : Oper} {c : Ctx} {tm : T Value} {A : AHeap} {K : KT} {v : Value} (h : done o c tm A K v = true) : ∃ tm', putT c.n tm o.dst v = some tm' ∧ K c tm' A = true := putC_of h

/-- An operation was done, and what follows says true. -/
def AopK (E : Env P) (o : Oper) (c : Ctx) (tm : T Value) (A : AHeap) (K : KT) : Prop :=
  ∃ v A', aop E o (opE tm) A = some (v, A') ∧ done o c tm A' K v = true

def hGen : H P := fun E o _ c tm A K =>
  match aop E o (opE tm) A with
  | some (v, A') => fV v fun v => fA A' fun A' => done o c tm A' K v
  | none => false
theorem hGen_of {E : Env P} {o : Oper} {app : App} {c : Ctx} {tm : T Value} {A : AHeap} {K : KT} (h : hGen E o app c tm A K = true) : AopK E o c tm A K := by
  unfold hGen at h
  split at h
  · rename_i v A' e
    rw [fV_eq, fA_eq] at h
    exact ⟨v, A', e, h⟩
  · cases h

def hMove (x : Operand) : H P := fun _ o _ c tm A K => opK x tm fun v => done o c tm A K v
theorem hMove_of {E : Env P} {o : Oper} {app : App} {c : Ctx} {tm : T Value} {A : AHeap} {K : KT} {x : Operand} (ho : o.op = .move x ∨ o.op = .assign x) (h : hMove x E o app c tm A K = true) : AopK E o c tm A K := by
  obtain ⟨v, hv, h'⟩ := opK_of h
  refine ⟨v, A, ?_, h'⟩
  rcases ho with ho | ho <;> (unfold aop; rw [ho]; simp only [hv])

def isAggT (E : Env P) (t : TypeId) : Bool := match E.und t with
  | some d => aggD d
  | none => true
def oneT (E : Env P) (t : TypeId) : Bool := match E.inf t with
  | some d => Nat.beq d.size 1
  | none => false

def hLoad (t : TypeId) (x : Operand) : H P := fun E o app c tm A K =>
  Bool.rec (motive := fun _ => Bool)
    (opK x tm fun p => vPtr p (fun i off => A.t.getK i (fun ob => obK ob (fun _ _ n z ce => Bool.rec (motive := fun _ => Bool) false
      (ce.getK off (fun v => done o c tm A K v) (fV (z.getD (off % z.length) undef) fun v => done o c tm A K v)) (Nat.blt off n))) false) false)
    (hGen E o app c tm A K) (isAggT E t)
theorem hLoad_of {E : Env P} {o : Oper} {app : App} {c : Ctx} {tm : T Value} {A : AHeap} {K : KT} {t : TypeId} {x : Operand} (ho : o.op = .load t x) (h : hLoad t x E o app c tm A K = true) : AopK E o c tm A K := by
  rcases brec_or h with ⟨_, h⟩ | ⟨hagg, h⟩
  · exact hGen_of h
  obtain ⟨p, hp, h⟩ := opK_of h
  rcases vPtr_or h with ⟨i, off, rfl, h⟩ | h
  · obtain ⟨ob, hob, h⟩ := T.getK_false h
    obtain ⟨ro, es, n, z, ce, rfl, h⟩ := obK_of h
    obtain ⟨hlt, h⟩ := brec_false h
    have hlt : off < n := Nat.lt_of_succ_le (Nat.le_of_ble_eq_true hlt)
    refine ⟨cellAt z ce off, A, ?_, ?_⟩
    · unfold aop
      rw [ho]
      simp only [hp, aLoad]
      have : A.obj i = some (.cells ro es n z ce) := hob
      rw [this]
      simp only
      unfold isAggT at hagg
      split at hagg
      · rename_i d hd
        rw [hd]; simp only [hagg, Bool.false_eq_true, if_false]
        rw [if_pos hlt]
      · cases hagg
    · rw [T.getK_eq] at h
      unfold cellAt
      split at h
      · rename_i v hv; rw [hv]; exact h
      · rename_i hv; rw [hv]; rw [fV_eq] at h; exact h
  · cases h

def hStore (t : TypeId) (x y : Operand) : H P := fun E o app c tm A K =>
  Bool.rec (motive := fun _ => Bool) (hGen E o app c tm A K)
    (opK y tm fun v => Bool.rec (motive := fun _ => Bool) (hGen E o app c tm A K)
      (opK x tm fun p => vPtr p (fun i off => A.t.getK i (fun ob => obK ob (fun ro es n z ce => Bool.rec (motive := fun _ => Bool)
        (Bool.rec (motive := fun _ => Bool) false (ce.setC off v fun ce => setH A i (.cells false es n z ce) fun A => done o c tm A K undef) (Nat.blt off n)) false ro)) false) false) (vOne v)) (oneT E t)
theorem hStore_of {E : Env P} {o : Oper} {app : App} {c : Ctx} {tm : T Value} {A : AHeap} {K : KT} {t : TypeId} {x y : Operand} (ho : o.op = .store t x y) (h : hStore t x y E o app c tm A K = true) : AopK E o c tm A K := by
  rcases brec_or h with ⟨h1, h⟩ | ⟨_, h⟩
  · obtain ⟨v, hv, h⟩ := opK_of h
    rcases brec_or h with ⟨h2, h⟩ | ⟨_, h⟩
    · obtain ⟨p, hp, h⟩ := opK_of h
      rcases vPtr_or h with ⟨i, off, rfl, h⟩ | h
      · obtain ⟨ob, hob, h⟩ := T.getK_false h
        obtain ⟨ro, es, n, z, ce, rfl, h⟩ := obK_of h
        rcases brec_or h with ⟨_, h⟩ | ⟨hro, h⟩
        · cases h
        subst hro
        obtain ⟨hlt, h⟩ := brec_false h
        have hlt : off < n := Nat.lt_of_succ_le (Nat.le_of_ble_eq_true hlt)
        rw [T.setC_eq, setH_eq] at h
        refine ⟨undef, _, ?_, h⟩
        unfold aop
        rw [ho]
        obtain ⟨c1, c2⟩ := vOne_of h2
        simp only [hp, hv, aStore]
        have : A.obj i = some (.cells false es n z ce) := hob
        rw [this]
        simp only
        unfold oneT at h1
        split at h1
        · rename_i info hi
          have hs : info.size = 1 := by simpa using h1
          rw [hi]
          simp only [c1, hs]
          rw [if_pos (by simp [c2]; omega)]
          simp [T.putList]
        · cases h1
      · cases h
    · exact hGen_of h
  · exact hGen_of h

def hNil (x : Operand) : H P := fun E o app c tm A K => opK x tm fun v => vPtr v (fun _ _ => done o c tm A K v) (hGen E o app c tm A K)
theorem hNil_of {E : Env P} {o : Oper} {app : App} {c : Ctx} {tm : T Value} {A : AHeap} {K : KT} {x : Operand} (ho : o.op = .nilCheck x) (h : hNil x E o app c tm A K = true) : AopK E o c tm A K := by
  obtain ⟨v, hv, h⟩ := opK_of h
  rcases vPtr_or h with ⟨i, off, rfl, h⟩ | h
  · exact ⟨_, A, by unfold aop; rw [ho]; simp only [hv, aNilCheck], h⟩
  · exact hGen_of h

def fieldOff (E : Env P) (t : TypeId) (f : Nat) : Option Nat := match E.und t with
  | some (.struct fields) => match fields[f]? with
    | some fd => match E.inf fd.type with
      | some info => if info.size = 0 then none else some fd.offset
      | none => none
    | none => none
  | _ => none
def hFieldAddr (t : TypeId) (x : Operand) (f : Nat) : H P := fun E o app c tm A K =>
  Option.rec (motive := fun _ => Bool) (hGen E o app c tm A K) (fun fo => opK x tm fun p => vPtr p (fun i off => done o c tm A K (.pointer (some ⟨i, Nat.add off fo, none⟩))) false) (fieldOff E t f)
theorem hFieldAddr_of {E : Env P} {o : Oper} {app : App} {c : Ctx} {tm : T Value} {A : AHeap} {K : KT} {t : TypeId} {x : Operand} {f : Nat} (ho : o.op = .fieldAddr t x f) (h : hFieldAddr t x f E o app c tm A K = true) : AopK E o c tm A K := by
  rcases orec_or h with ⟨fo, hfo, h⟩ | ⟨_, h⟩
  · obtain ⟨p, hp, h⟩ := opK_of h
    rcases vPtr_or h with ⟨i, off, rfl, h⟩ | h
    · refine ⟨_, A, ?_, h⟩
      unfold aop; rw [ho]; simp only [hp, aFieldAddr]
      unfold fieldOff at hfo
      split at hfo
      · rename_i fields hu
        rw [hu]; simp only
        split at hfo
        · rename_i fd hfd
          rw [hfd]; simp only
          split at hfo
          · rename_i info hi
            rw [hi]; simp only
            split at hfo
            · cases hfo
            · rename_i hs; cases hfo; rw [if_neg hs]; rfl
          · cases hfo
        · cases hfo
      · cases hfo
    · cases h
  · exact hGen_of h

def elemSz (E : Env P) (t : TypeId) : Option Nat := match E.und t with
  | some (.slice elem) => match E.inf elem with
    | some info => some info.size
    | none => none
  | _ => none
def hIndexAddr (t : TypeId) (x y : Operand) : H P := fun E o app c tm A K =>
  Option.rec (motive := fun _ => Bool) (hGen E o app c tm A K) (fun sz => opK x tm fun s => opK y tm fun k => vSlice s (fun a len _ => vInt k (fun _ k => iNat k (fun k =>
    Option.rec (motive := fun _ => Bool) false (fun a => Addr.rec (motive := fun _ => Bool) (fun i off sp => Option.rec (motive := fun _ => Bool)
      (Bool.rec (motive := fun _ => Bool) false (done o c tm A K (.pointer (some ⟨i, Nat.add off (Nat.mul k sz), none⟩))) (Nat.blt k len)) (fun _ => false) sp) a) a) false) false) false) (elemSz E t)
theorem hIndexAddr_of {E : Env P} {o : Oper} {app : App} {c : Ctx} {tm : T Value} {A : AHeap} {K : KT} {t : TypeId} {x y : Operand} (ho : o.op = .indexAddr t x y) (h : hIndexAddr t x y E o app c tm A K = true) : AopK E o c tm A K := by
  rcases orec_or h with ⟨sz, hsz, h⟩ | ⟨_, h⟩
  · obtain ⟨s, hs, h⟩ := opK_of h
    obtain ⟨k, hk, h⟩ := opK_of h
    rcases vSlice_or h with ⟨a, len, cp, rfl, h⟩ | h
    · rcases vInt_or h with ⟨kd, n, rfl, h⟩ | h
      · rcases iNat_or h with ⟨n, rfl, h⟩ | h
        · obtain ⟨a, rfl, h⟩ := orec_false h
          obtain ⟨i, off, sp⟩ := a
          cases sp with
          | some sp => cases h
          | none =>
            obtain ⟨hlt, h⟩ := brec_false h
            have hlt : n < len := Nat.lt_of_succ_le (Nat.le_of_ble_eq_true hlt)
            refine ⟨_, A, ?_, h⟩
            unfold aop; rw [ho]; simp only [hs, hk, aIndexAddr]
            rw [if_neg (by exact Int.not_lt.2 (Int.natCast_nonneg n))]
            unfold elemSz at hsz
            split at hsz
            · rename_i elem hu
              rw [hu]; simp only
              split at hsz
              · rename_i info hi
                cases hsz
                rw [hi]; simp only
                rw [if_pos (by exact hlt)]
                rfl
              · cases hsz
            · cases hsz
        · cases h
      · cases h
    · cases h
  · exact hGen_of h

def hBin (op : BinOp) (_ : TypeId) (x y : Operand) (_ : TypeId) : H P := fun E o app c tm A K =>
  opK x tm fun a => vInt a (fun k a => iNat a (fun a => opK y tm fun b => vInt b (fun k' b => iNat b (fun b =>
    Bool.rec (motive := fun _ => Bool) (hGen E o app c tm A K) (arith op k a b (fun v => done o c tm A K v) (hGen E o app c tm A K)) (Bool.rec (motive := fun _ => Bool) (Nat.beq (kidx k) (kidx k')) true (shiftOp op)))
      (hGen E o app c tm A K)) (hGen E o app c tm A K)) (hGen E o app c tm A K)) (hGen E o app c tm A K)
theorem hBin_of {E : Env P} {o : Oper} {app : App} {c : Ctx} {tm : T Value} {A : AHeap} {K : KT} {op : BinOp} {t u : TypeId} {x y : Operand} (ho : o.op = .binOp op t x y u) (h : hBin op t x y u E o app c tm A K = true) : AopK E o c tm A K := by
  obtain ⟨a, ha, h⟩ := opK_of h
  rcases vInt_or h with ⟨k, n, rfl, h⟩ | h
  · rcases iNat_or h with ⟨n, rfl, h⟩ | h
    · obtain ⟨b, hb, h⟩ := opK_of h
      rcases vInt_or h with ⟨k', m, rfl, h⟩ | h
      · rcases iNat_or h with ⟨m, rfl, h⟩ | h
        · rcases brec_or h with ⟨hk, h⟩ | ⟨_, h⟩
          · rcases arith_ok h with h | ⟨hs, v, hv, h⟩ | ⟨hs, v, hv, h⟩
            · exact hGen_of h
            · refine ⟨v, A, ?_, h⟩
              rw [hs] at hk
              have := kidx_inj hk
              subst this
              unfold aop; rw [ho]; simp only [ha, hb, aBin]
              cases op <;> first | (cases hs; done) | (simp only [if_true]; rw [hv])
            · refine ⟨v, A, ?_, h⟩
              unfold aop; rw [ho]; simp only [ha, hb, aBin]
              cases op <;> first | (cases hs; done) | (simp only; rw [hv])
          · exact hGen_of h
        · exact hGen_of h
      · exact hGen_of h
    · exact hGen_of h
  · exact hGen_of h

def convK (E : Env P) (s d : TypeId) : Option IntKind := match E.und s, E.und d with
  | some _, some (.int k) => some k
  | _, _ => none
def hConv (s d : TypeId) (x : Operand) : H P := fun E o app c tm A K =>
  Option.rec (motive := fun _ => Bool) (hGen E o app c tm A K) (fun k => opK x tm fun v => vInt v (fun _ n => iNat n (fun n => wrapK k n fun n => done o c tm A K (.int k n)) (hGen E o app c tm A K)) (hGen E o app c tm A K)) (convK E s d)
theorem hConv_of {E : Env P} {o : Oper} {app : App} {c : Ctx} {tm : T Value} {A : AHeap} {K : KT} {s d : TypeId} {x : Operand} (ho : o.op = .convert s d x) (h : hConv s d x E o app c tm A K = true) : AopK E o c tm A K := by
  rcases orec_or h with ⟨k, hk, h⟩ | ⟨_, h⟩
  · obtain ⟨v, hv, h⟩ := opK_of h
    rcases vInt_or h with ⟨k', n, rfl, h⟩ | h
    · rcases iNat_or h with ⟨n, rfl, h5⟩ | h
      · have h6 := (wrapK_eq k n fun n => done o c tm A K (.int k n)).symm.trans h5
        refine ⟨_, A, ?_, h6⟩
        unfold aop; rw [ho]; simp only [hv, aConvert]
        unfold convK at hk
        split at hk
        · rename_i ds k2 h1 h2
          cases hk
          rw [h1, h2]
        · cases hk
      · exact hGen_of h
    · exact hGen_of h
  · exact hGen_of h

def hNot (op : UnOp) (_ : TypeId) (x : Operand) : H P := fun E o app c tm A K =>
  UnOp.rec (motive := fun _ => Bool) (hGen E o app c tm A K) (hGen E o app c tm A K)
    (opK x tm fun v => vBool v (fun b => Bool.rec (motive := fun _ => Bool) (done o c tm A K (.bool true)) (done o c tm A K (.bool false)) b) false) (hGen E o app c tm A K) op
theorem hNot_of {E : Env P} {o : Oper} {app : App} {c : Ctx} {tm : T Value} {A : AHeap} {K : KT} {op : UnOp} {t : TypeId} {x : Operand} (ho : o.op = .unOp op t x) (h : hNot op t x E o app c tm A K = true) : AopK E o c tm A K := by
  cases op with
  | not =>
    obtain ⟨v, hv, h⟩ := opK_of h
    rcases vBool_or h with ⟨b, rfl, h⟩ | h
    · refine ⟨.bool !b, A, ?_, ?_⟩
      · unfold aop; rw [ho]; simp only [hv, aUn]
      · cases b <;> exact h
    · cases h
  | _ => exact hGen_of (app := app) h

def hPick (x y z : Operand) : H P := fun _ o _ c tm A K => opK y tm fun a => opK z tm fun b => opK x tm fun v => vBool v (fun t => Bool.rec (motive := fun _ => Bool) (done o c tm A K b) (done o c tm A K a) t) false
theorem hPick_of {E : Env P} {o : Oper} {app : App} {c : Ctx} {tm : T Value} {A : AHeap} {K : KT} {x y z : Operand} (ho : o.op = .pick x y z) (h : hPick x y z E o app c tm A K = true) : AopK E o c tm A K := by
  obtain ⟨a, ha, h⟩ := opK_of h
  obtain ⟨b, hb, h⟩ := opK_of h
  obtain ⟨v, hv, h⟩ := opK_of h
  rcases vBool_or h with ⟨t, rfl, h⟩ | h
  · refine ⟨if t then a else b, A, ?_, ?_⟩
    · unfold aop; rw [ho]; simp only [hv, ha, hb]
    · cases t <;> exact h
  · cases h

end
end Go.Abs

/- The evaluator, regions whose order is drawn apart. -/
namespace Go.Abs
open Go
noncomputable section
variable {P : Program}

abbrev Ext0 := FuncId → List Value → AHeap → Value → AHeap → Prop

def AppOk (E : Env P) (X : Ext0) (app : App) : Prop :=
  ∀ fv args A K, app fv args A K = true → WF A → ∃ v A', BS E X (.app fv args A v A') ∧ Low A A' ∧ K v A' = true

def hCall (ca : Call) : H P := fun E o app c tm A K =>
  Callee.rec (motive := fun _ => Bool) (fun f => opK f tm fun fv => opsK ca.args.toList tm fun args => app fv args A fun v A => done o c tm A K v) (fun _ _ => false) (fun _ => hGen E o app c tm A K) ca.callee
def hDefer (ca : Call) : H P := fun _ o _ c tm A K =>
  match ca.callee, c.rd with
  | .value f, none => opK f tm fun fv => opsK ca.args.toList tm fun args => vFunc fv fun fn first cap => match fn with
    | .func fn => done o ⟨c.fn, c.rd, c.n, { target := .fn (.func fn) cap, args := first ++ args.toArray } :: c.ds⟩ tm A K undef
    | _ => false
  | _, _ => false

def hOp (o : Op) : H P :=
  Op.rec (motive := fun _ => H P) hMove hMove hPick (fun _ => hGen) (fun _ _ => hGen) (fun _ _ => hGen) (fun _ _ _ => hGen) (fun _ _ _ _ => hGen) hLoad hStore (fun _ => hGen) (fun _ => hGen) hNil hBin hNot hConv
    (fun _ _ => hGen) (fun _ _ => hGen) (fun _ _ _ => hGen) (fun _ _ => hGen) (fun _ _ => hGen) (fun _ _ _ => hGen) (fun _ _ _ _ _ => hGen) hFieldAddr (fun _ _ _ => hGen) hIndexAddr (fun _ _ _ => hGen)
    (fun _ _ _ _ => hGen) (fun _ _ _ _ => hGen) (fun _ _ _ => hGen) (fun _ _ _ _ => hGen) (fun _ _ => hGen) (fun _ _ => hGen) (fun _ => hGen) (fun _ _ _ _ => hGen) (fun _ _ => hGen) hCall (fun _ => hGen) hDefer
    (fun _ => hGen) (fun _ _ => hGen) (fun _ _ _ => hGen) (fun _ _ => hGen) o

inductive OpRes (E : Env P) (X : Ext0) (o : Oper) (c : Ctx) (tm : T Value) (A : AHeap) (K : KT) : Prop where
  | aop (h : AopK E o c tm A K)
  | call {ca f fv args v A'} (ho : o.op = .call ca) (hc : ca.callee = .value f) (hf : opE tm f = some fv) (ha : evList (opE tm) ca.args.toList = some args) (hi : BS E X (.app fv args A v A')) (hl : Low A A')
      (hd : done o c tm A' K v = true)
  | defer {ca f fn first cap args} (hrd : c.rd = none) (ho : o.op = .defer ca) (hc : ca.callee = .value f) (hf : opE tm f = some (.func (.func fn) first cap)) (ha : evList (opE tm) ca.args.toList = some args)
      (hd : done o ⟨c.fn, c.rd, c.n, { target := .fn (.func fn) cap, args := first ++ args.toArray } :: c.ds⟩ tm A K undef = true)

theorem hOp_of {E : Env P} {X : Ext0} {app : App} {o : Oper} {c : Ctx} {tm : T Value} {A : AHeap} {K : KT} (happ : AppOk E X app) (hw : WF A) (h : hOp o.op E o app c tm A K = true) : OpRes E X o c tm A K := by
  generalize ho : o.op = op at h
  cases op with
  | move x => exact .aop (hMove_of (app := app) (.inl ho) h)
  | assign x => exact .aop (hMove_of (app := app) (.inr ho) h)
  | pick x y z => exact .aop (hPick_of (app := app) ho h)
  | load t x => exact .aop (hLoad_of (app := app) ho h)
  | store t x y => exact .aop (hStore_of (app := app) ho h)
  | nilCheck x => exact .aop (hNil_of (app := app) ho h)
  | binOp op t x y u => exact .aop (hBin_of (app := app) ho h)
  | unOp op t x => exact .aop (hNot_of (app := app) ho h)
  | convert s d x => exact .aop (hConv_of (app := app) ho h)
  | fieldAddr t x f => exact .aop (hFieldAddr_of (app := app) ho h)
  | indexAddr t x y => exact .aop (hIndexAddr_of (app := app) ho h)
  | call ca =>
    have h' : hCall ca E o app c tm A K = true := h
    unfold hCall at h'
    cases hc : ca.callee with
    | value f =>
      rw [hc] at h'
      obtain ⟨fv, hf, h2⟩ := opK_of h'
      obtain ⟨args, ha, h3⟩ := opsK_of h2
      obtain ⟨v, A', hi, hl, h4⟩ := happ _ _ _ _ h3 hw
      exact .call ho hc hf ha hi hl h4
    | invoke r m => rw [hc] at h'; cases h'
    | builtin b => rw [hc] at h'; exact .aop (hGen_of (app := app) h')
  | defer ca =>
    have h' : hDefer ca E o app c tm A K = true := h
    unfold hDefer at h'
    split at h'
    · rename_i f hc hrd
      obtain ⟨fv, hf, h2⟩ := opK_of h'
      obtain ⟨args, ha, h3⟩ := opsK_of h2
      obtain ⟨fn, first, cap, rfl, h4⟩ := vFunc_of h3
      split at h4
      · exact .defer hrd ho hc hf ha h4
      · cases h4
    · cases h'
  | _ => exact .aop (hGen_of (app := app) h)

def wantsK (ops : Array Oper) (o : Oper) (tm : T Value) (KY KN : Bool) : Bool :=
  Option.rec (motive := fun _ => Bool) KY (fun g => Prod.rec (motive := fun _ => Bool) (fun j want => match (ops[j]?).bind (·.dst) with
    | some d => Bool.rec (motive := fun _ => Bool) KN KY (boolOf (tm.get d) == some want)
    | none => KN) g) o.guard
theorem wantsK_of {ops : Array Oper} {o : Oper} {c : Ctx} {tm : T Value} {KY KN : Bool} (h : wantsK ops o tm KY KN = true) :
    ((c.st tm).wants ops o = true ∧ KY = true) ∨ ((c.st tm).wants ops o = false ∧ KN = true) := by
  unfold wantsK at h
  unfold St.wants
  cases hg : o.guard with
  | none => rw [hg] at h; exact .inl ⟨rfl, h⟩
  | some g =>
    obtain ⟨j, want⟩ := g
    rw [hg] at h
    simp only at h ⊢
    cases hd : (ops[j]?).bind (·.dst) with
    | none => rw [hd] at h; exact .inr ⟨rfl, h⟩
    | some d =>
      rw [hd] at h
      rcases brec_or h with ⟨hb, h⟩ | ⟨hb, h⟩
      · exact .inl ⟨hb, h⟩
      · exact .inr ⟨hb, h⟩

def opsL (E : Env P) (app : App) (ops : Array Oper) (l : List Oper) : KT → Ctx → T Value → AHeap → Bool :=
  List.rec (motive := fun _ => KT → Ctx → T Value → AHeap → Bool) (fun K c tm A => K c tm A)
    (fun o _ ih K c tm A => wantsK ops o tm (hOp o.op E o app c tm A (ih K)) (done o c tm A (ih K) undef)) l

theorem opsL_of {E : Env P} {X : Ext0} {app : App} {ops : Array Oper} (happ : AppOk E X app) : ∀ {l : List Oper} {i : Nat} {K : KT} {c : Ctx} {tm : T Value} {A : AHeap}, opsL E app ops l K c tm A = true → WF A →
    ∃ c' tm' A', BS E X (.ops ops i l (c.st tm) A (c'.st tm') A') ∧ Low A A' ∧ K c' tm' A' = true
  | [], i, K, c, tm, A, h, hw => ⟨c, tm, A, .nil, Low.refl hw, h⟩
  | o :: l, i, K, c, tm, A, h, hw => by
    have h' : wantsK ops o tm (hOp o.op E o app c tm A (opsL E app ops l K)) (done o c tm A (opsL E app ops l K) undef) = true := h
    rcases wantsK_of (c := c) h' with ⟨hwt, h1⟩ | ⟨hwt, h1⟩
    · cases hOp_of happ hw h1 with
      | aop h2 =>
        obtain ⟨v, A1, hop, h3⟩ := h2
        obtain ⟨tm1, hp, h4⟩ := done_of h3
        have hl := aop_low hop hw
        obtain ⟨c', tm', A', hb, hl', h5⟩ := opsL_of happ h4 hl.wf
        exact ⟨c', tm', A', .op hwt (by rw [opE_ev]; exact hop) (put_st _ _ _ _ _ hp) hb, hl.trans hl', h5⟩
      | call ho hc hf ha hi hl hd =>
        obtain ⟨tm1, hp, h4⟩ := done_of hd
        obtain ⟨c', tm', A', hb, hl', h5⟩ := opsL_of happ h4 hl.wf
        exact ⟨c', tm', A', .opCall hwt ho hc (by rw [opE_ev]; exact hf) (by rw [opE_ev]; exact ha) hi (put_st _ _ _ _ _ hp) hb, hl.trans hl', h5⟩
      | defer hrd ho hc hf ha hd =>
        obtain ⟨tm1, hp, h4⟩ := done_of hd
        obtain ⟨c', tm', A', hb, hl', h5⟩ := opsL_of happ h4 hw
        exact ⟨c', tm', A', .opDefer hwt hrd ho hc (by rw [opE_ev]; exact hf) (by rw [opE_ev]; exact ha) (put_st ⟨c.fn, c.rd, c.n, _⟩ _ _ _ _ hp) hb, hl', h5⟩
    · obtain ⟨tm1, hp, h4⟩ := done_of h1
      obtain ⟨c', tm', A', hb, hl', h5⟩ := opsL_of happ h4 hw
      exact ⟨c', tm', A', .opSkip hwt (put_st _ _ _ _ _ hp) hb, hl', h5⟩

end
end Go.Abs

/- The evaluator: code, calls. -/
namespace Go.Abs
open Go
noncomputable section
variable {P : Program}

/-- What runs a region whose order is drawn. -/
abbrev DT := App → Nat → Array Oper → Ctx → T Value → AHeap → KT → Bool
def DrOk (E : Env P) (X : Ext0) (dr : DT) : Prop :=
  ∀ app, AppOk E X app → ∀ id ops c tm A K, dr app id ops c tm A K = true → WF A →
    ∃ tm' A', BS E X (.code (.region id ops true) (c.st tm) A .normal (c.st tm') A') ∧ Low A A' ∧ K c tm' A' = true

@[irreducible] def fuelLoop : Nat := 100000
def loopN (n : Nat) (a : Ctx → T Value → AHeap → KT → KX → Bool) (X : KX) : Ctx → T Value → AHeap → Bool :=
  Nat.rec (motive := fun _ => Ctx → T Value → AHeap → Bool) (fun _ _ _ => false) (fun _ self c tm A => a c tm A self X) n
def loopsAroundOf (A : AHeap) (c : Ctx) : Option (Option Nat) := loopsAround A c.rd

def codeC (E : Env P) (dr : DT) (app : App) (c : Code) : Ctx → T Value → AHeap → KT → KX → Bool :=
  Code.rec (motive := fun _ => Ctx → T Value → AHeap → KT → KX → Bool)
    (fun c tm A K _ => K c tm A)
    (fun id ops d c tm A K _ => Bool.rec (motive := fun _ => Bool) (opsL E app ops ops.toList K c tm A) (dr app id ops c tm A K) d)
    (fun _ _ a b c tm A K X => a c tm A (fun c tm A => b c tm A K X) X)
    (fun x _ _ a b c tm A K X => opK x tm fun v => vBool v (fun t => Bool.rec (motive := fun _ => Bool) (b c tm A K X) (a c tm A K X) t) false)
    (fun id _ a c tm A K X => a c tm A K (fun e c tm A => AExit.rec (motive := fun _ => Bool) false (fun id' => Bool.rec (motive := fun _ => Bool) (X (.exit id') c tm A) (K c tm A) (Nat.beq id' id)) (X .ret c tm A) e))
    (fun _ a c tm A _ X => loopN fuelLoop a X c tm A)
    (fun f params asg body _ _ c tm A K X => opK f tm fun fv => vFunc fv fun fn first cap => match fn, loopsAround A c.rd with
      | .func g, some D => match A.start ⟨c.fn, c.rd, c.n, tm, c.ds⟩ params asg body D with
        | (A1, L, ds) => fA A1 fun A1 => fN L fun L => app (.func (.func g) first cap) [.func (.yield L) #[] #[]] A1 fun _ A2 =>
          match A2.obj L with
          | some (.loop r) => match r with
            | ⟨.busy, _, _, _, _, _, _, _, _⟩ => false
            | ⟨_, pd, fn, n, tmps, params, asg, body, D⟩ => setH A2 L (.loop ⟨.exhausted, pd, fn, n, tmps, params, asg, body, D⟩) fun A3 => match pd with
              | none => K ⟨c.fn, c.rd, c.n, ds⟩ tm A3
              | some .ret => X .ret ⟨c.fn, c.rd, c.n, ds⟩ tm A3
              | some (.exit id) => X (.exit id) ⟨c.fn, c.rd, c.n, ds⟩ tm A3
              | _ => false
          | _ => false
      | _, _ => false)
    (fun id c tm A _ X => X (.exit id) c tm A)
    (fun _ _ _ _ _ _ _ => false)
    (fun _ c tm A K _ => K c tm A)
    (fun _ _ _ _ _ _ => false)
    (fun c tm A _ X => X .ret c tm A)
    (fun _ _ _ _ _ _ => false) c

/-- Where code went on. -/
def onward (K : KT) (X : KX) : AExit → Ctx → T Value → AHeap → Bool
  | .normal => K
  | e => X e

theorem codeC_of {E : Env P} {X0 : Ext0} {dr : DT} {app : App} (hdr : DrOk E X0 dr) (happ : AppOk E X0 app) : ∀ (code : Code) (c : Ctx) (tm : T Value) (A : AHeap) (K : KT) (X : KX), codeC E dr app code c tm A K X = true → WF A →
    ∃ e c' tm' A', BS E X0 (.code code (c.st tm) A e (c'.st tm') A') ∧ Low A A' ∧ onward K X e c' tm' A' = true := by
  intro code
  induction code with
  | skip => exact fun c tm A K X h hw => ⟨.normal, c, tm, A, .skip, Low.refl hw, h⟩
  | label l => exact fun c tm A K X h hw => ⟨.normal, c, tm, A, .label, Low.refl hw, h⟩
  | exit id => exact fun c tm A K X h hw => ⟨.exit id, c, tm, A, .exit, Low.refl hw, h⟩
  | ret => exact fun c tm A K X h hw => ⟨.ret, c, tm, A, .ret, Low.refl hw, h⟩
  | region id ops d =>
    intro c tm A K X h hw
    cases d with
    | false =>
      obtain ⟨c', tm', A', hb, hl, hk⟩ := opsL_of (i := 0) (l := ops.toList) happ h hw
      exact ⟨.normal, c', tm', A', .region hb, hl, hk⟩
    | true =>
      obtain ⟨tm', A', hb, hl, hk⟩ := hdr app happ id ops c tm A K h hw
      exact ⟨.normal, c, tm', A', hb, hl, hk⟩
  | seq a b iha ihb =>
    intro c tm A K X h hw
    obtain ⟨e, c1, tm1, A1, hb, hl, hk⟩ := iha c tm A (fun c tm A => codeC E dr app b c tm A K X) X h hw
    cases e with
    | normal =>
      obtain ⟨e, c2, tm2, A2, hb2, hl2, hk2⟩ := ihb c1 tm1 A1 K X hk hl.wf
      exact ⟨e, c2, tm2, A2, .seq hb hb2, hl.trans hl2, hk2⟩
    | exit id => exact ⟨_, c1, tm1, A1, .seqOut hb (by simp), hl, hk⟩
    | ret => exact ⟨_, c1, tm1, A1, .seqOut hb (by simp), hl, hk⟩
  | cond x a b iha ihb =>
    intro c tm A K X h hw
    obtain ⟨v, hv, h⟩ := opK_of (x := x) (K := fun v => vBool v (fun t => Bool.rec (motive := fun _ => Bool) (codeC E dr app b c tm A K X) (codeC E dr app a c tm A K X) t) false) h
    rcases vBool_or h with ⟨t, rfl, h⟩ | h
    · cases t with
      | true =>
        obtain ⟨e, c', tm', A', hb, hl, hk⟩ := iha c tm A K X h hw
        exact ⟨e, c', tm', A', .cond (t := true) (by rw [opE_ev]; exact hv) hb, hl, hk⟩
      | false =>
        obtain ⟨e, c', tm', A', hb, hl, hk⟩ := ihb c tm A K X h hw
        exact ⟨e, c', tm', A', .cond (t := false) (by rw [opE_ev]; exact hv) hb, hl, hk⟩
    · cases h
  | block id a iha =>
    intro c tm A K X h hw
    obtain ⟨e, c', tm', A', hb, hl, hk⟩ := iha c tm A K (fun e c tm A => AExit.rec (motive := fun _ => Bool) false (fun id' => Bool.rec (motive := fun _ => Bool) (X (.exit id') c tm A) (K c tm A) (Nat.beq id' id)) (X .ret c tm A) e) h hw
    cases e with
    | normal => exact ⟨_, c', tm', A', .block hb, hl, hk⟩
    | ret => exact ⟨_, c', tm', A', .block hb, hl, hk⟩
    | exit id' =>
      rcases brec_or hk with ⟨he, hk2⟩ | ⟨he, hk2⟩
      · have : id' = id := Nat.eq_of_beq_eq_true he
        subst this
        refine ⟨_, c', tm', A', .block hb, hl, ?_⟩
        rw [if_pos rfl]; exact hk2
      · have : id' ≠ id := Nat.ne_of_beq_eq_false he
        refine ⟨_, c', tm', A', .block hb, hl, ?_⟩
        rw [if_neg (by simpa using this)]; exact hk2
  | loop a iha =>
    intro c tm A K X h hw
    have key : ∀ n c tm A, WF A → loopN n (codeC E dr app a) X c tm A = true →
        ∃ e c' tm' A', BS E X0 (.code (.loop a) (c.st tm) A e (c'.st tm') A') ∧ Low A A' ∧ onward K X e c' tm' A' = true := by
      intro n
      induction n with
      | zero => intro c tm A _ h; cases h
      | succ n ihn =>
        intro c tm A hw h
        obtain ⟨e, c1, tm1, A1, hb, hl, hk⟩ := iha c tm A _ X h hw
        cases e with
        | normal =>
          obtain ⟨e, c2, tm2, A2, hb2, hl2, hk2⟩ := ihn c1 tm1 A1 hl.wf hk
          exact ⟨e, c2, tm2, A2, .loop hb hb2, hl.trans hl2, hk2⟩
        | exit id => exact ⟨_, c1, tm1, A1, .loopOut hb (by simp), hl, hk⟩
        | ret => exact ⟨_, c1, tm1, A1, .loopOut hb (by simp), hl, hk⟩
    exact key fuelLoop c tm A hw h
  | rangeFunc f params asg body _ _ =>
    intro c tm A K X h hw
    obtain ⟨fv, hf, h2⟩ := opK_of h
    obtain ⟨fn, first, cap, rfl, h3⟩ := vFunc_of h2
    clear h h2
    revert h3; intro h
    split at h
    · rename_i g D hD
      generalize hs : A.start ⟨c.fn, c.rd, c.n, tm, c.ds⟩ params asg body D = st at h
      obtain ⟨A1, L, ds⟩ := st
      simp only [fA_eq, fN_eq] at h
      have hl1 : Low A A1 := by
        cases D with
        | some D =>
          simp only [AHeap.start, Prod.mk.injEq] at hs
          obtain ⟨rfl, _, _⟩ := hs
          exact hw.push' _
        | none =>
          simp only [AHeap.start, Prod.mk.injEq] at hs
          obtain ⟨rfl, _, _⟩ := hs
          exact (hw.push' _).trans ((hw.push' _).wf.push' _)
      obtain ⟨v, A2, hb, hl2, h⟩ := happ _ _ _ _ h hl1.wf
      split at h
      · rename_i r hr
        split at h
        · cases h
        · rename_i st pd fn n tmps ps as bd D' hbusy
          rw [setH_eq] at h
          have hb' : st ≠ .busy := hbusy
          have hl3 := hl2.wf.set' (o' := .loop ⟨.exhausted, pd, fn, n, tmps, ps, as, bd, D'⟩) hr
          split at h
          · exact ⟨.normal, ⟨c.fn, c.rd, c.n, ds⟩, tm, _, .range (by rw [opE_ev]; exact hf) ⟨_, _, _, rfl⟩ hD hs hb hr hb' rfl, (hl1.trans hl2).trans hl3, h⟩
          · exact ⟨.ret, ⟨c.fn, c.rd, c.n, ds⟩, tm, _, .rangeOut (by rw [opE_ev]; exact hf) ⟨_, _, _, rfl⟩ hD hs hb hr hb' rfl .ret, (hl1.trans hl2).trans hl3, h⟩
          · exact ⟨.exit _, ⟨c.fn, c.rd, c.n, ds⟩, tm, _, .rangeOut (by rw [opE_ev]; exact hf) ⟨_, _, _, rfl⟩ hD hs hb hr hb' rfl .exit, (hl1.trans hl2).trans hl3, h⟩
          · cases h
      · cases h
    · cases h
  | _ => intro c tm A K X h; cases h

end
end Go.Abs

/- The evaluator: calls, rounds of loops over functions. -/
namespace Go.Abs
open Go
noncomputable section
variable {P : Program}

def args3 (l : List Value) : Nat → T Value → (Nat → T Value → Bool) → Bool :=
  List.rec (motive := fun _ => Nat → T Value → (Nat → T Value → Bool) → Bool) (fun n t K => K n t) (fun v _ ih n t K => t.setC n v fun t => ih (Nat.succ n) t K) l
theorem args3_eq (l : List Value) (n : Nat) (t : T Value) (K : Nat → T Value → Bool) : args3 l n t K = K (n + l.length) (t.putList n l) := by
  induction l generalizing n t with
  | nil => rfl
  | cons v r ih =>
    have e : args3 (v :: r) n t K = t.setC n v fun t => args3 r (n + 1) t K := rfl
    rw [e, T.setC_eq, ih]
    simp only [T.putList, List.length_cons]
    congr 1
    omega

def resK (E : Env P) (rs : List ResultVar) : T Value → AHeap → (List Value → Bool) → Bool :=
  List.rec (motive := fun _ => T Value → AHeap → (List Value → Bool) → Bool) (fun _ _ K => K [])
    (fun r _ ih tm A K => ResultVar.rec (motive := fun _ => Bool) (fun t => tm.getK t (fun v => ih tm A fun l => K (v :: l)) (ih tm A fun l => K (undef :: l)))
      (fun a ty => match aLoad E ty ((tm.get a).getD undef) A with
        | some v => fV v fun v => ih tm A fun l => K (v :: l)
        | none => false) r) rs
theorem resK_of {E : Env P} {rs : List ResultVar} {tm : T Value} {A : AHeap} {K : List Value → Bool} (h : resK E rs tm A K = true) : ∃ l, aResults E tm A rs = some l ∧ K l = true := by
  induction rs generalizing K with
  | nil => exact ⟨[], rfl, h⟩
  | cons r rs ih =>
    cases r with
    | tmp t =>
      have h' : tm.getK t (fun v => resK E rs tm A fun l => K (v :: l)) (resK E rs tm A fun l => K (undef :: l)) = true := h
      rw [T.getK_eq] at h'
      cases e : tm.get t with
      | none =>
        rw [e] at h'
        obtain ⟨l, h1, h2⟩ := ih h'
        exact ⟨_, by simp only [aResults, h1, e]; rfl, h2⟩
      | some v =>
        rw [e] at h'
        obtain ⟨l, h1, h2⟩ := ih h'
        exact ⟨_, by simp only [aResults, h1, e]; rfl, h2⟩
    | cell a ty =>
      have h' : (match aLoad E ty ((tm.get a).getD undef) A with
        | some v => fV v fun v => resK E rs tm A fun l => K (v :: l)
        | none => false) = true := h
      split at h'
      · rename_i v hv
        rw [fV_eq] at h'
        obtain ⟨l, h1, h2⟩ := ih h'
        exact ⟨_, by simp only [aResults, h1, hv], h2⟩
      · cases h'

abbrev CallT := FuncId → List Value → AHeap → KV → Bool
def CallOk (E : Env P) (X : Ext0) (cal : CallT) : Prop :=
  ∀ f args A K, cal f args A K = true → WF A → ∃ v A', BS E X (.call f args A v A') ∧ Low A A' ∧ K v A' = true

def leaveK (cal : CallT) (ds : List Deferred) : AHeap → (AHeap → Bool) → Bool :=
  List.rec (motive := fun _ => AHeap → (AHeap → Bool) → Bool) (fun A K => K A) (fun d _ ih A K => match d.target with
    | .collected D => match A.obj D with
      | some .marks => setH A D .dead fun A => ih A K
      | _ => false
    | .fn (.func fn) cap => cal fn (d.args.toList ++ cap.toList) A fun _ A => ih A K
    | _ => false) ds
theorem leaveK_of {E : Env P} {X : Ext0} {cal : CallT} (hc : CallOk E X cal) {ds : List Deferred} : ∀ {A : AHeap} {K : AHeap → Bool}, leaveK cal ds A K = true → WF A → ∃ A', BS E X (.leave ds A A') ∧ Low A A' ∧ K A' = true := by
  induction ds with
  | nil => exact fun {A K} h hw => ⟨A, .leaveNil, Low.refl hw, h⟩
  | cons d ds ih =>
    intro A K h hw
    have h' : (match d.target with
      | .collected D => match A.obj D with
        | some .marks => setH A D .dead fun A => leaveK cal ds A K
        | _ => false
      | .fn (.func fn) cap => cal fn (d.args.toList ++ cap.toList) A fun _ A => leaveK cal ds A K
      | _ => false) = true := h
    split at h'
    · rename_i D ht
      split at h'
      · rename_i hD
        rw [setH_eq] at h'
        have hl := hw.set' (o' := .dead) hD
        obtain ⟨A', hb, hl', hk⟩ := ih h' hl.wf
        exact ⟨A', .leaveMark ht hD hb, hl.trans hl', hk⟩
      · cases h'
    · rename_i fn cap ht
      obtain ⟨v, A1, hb, hl, h2⟩ := hc _ _ _ _ h' hw
      obtain ⟨A', hb', hl', hk⟩ := ih h2 hl.wf
      exact ⟨A', .leaveCall ht hb hb', hl.trans hl', hk⟩
    · cases h'

abbrev XT := FuncId → List Value → AHeap → KV → Option Bool
def XOk (X : Ext0) (xt : XT) : Prop := ∀ f args A K, xt f args A K = some true → WF A → ∃ v A', X f args A v A' ∧ Low A A' ∧ K v A' = true

def finC (E : Env P) (cal : CallT) (rs : List ResultVar) (K : KV) (c : Ctx) (tm : T Value) (A : AHeap) : Bool :=
  leaveK cal c.ds A fun A => resK E rs tm A fun l => K (oneOf l) A

def callC (E : Env P) (dr : DT) (xt : XT) (app : App) (cal : CallT) (f : FuncId) (args : List Value) (A : AHeap) (K : KV) : Bool :=
  Option.rec (motive := fun _ => Bool)
    (Option.rec (motive := fun _ => Bool) false (fun fn : Func => Option.rec (motive := fun _ => Bool) false (fun c =>
      args3 args 0 .e fun n tm => codeC E dr app c ⟨f, none, Nat.add n (Nat.sub fn.ntmps n), []⟩ tm A (finC E cal fn.results.toList K)
        (fun e => AExit.rec (motive := fun _ => KT) (fun _ _ _ => false) (fun _ _ _ _ => false) (finC E cal fn.results.toList K) e)) fn.body) (E.fns f))
    (fun b => b) (xt f args A K)
theorem callC_of {E : Env P} {X : Ext0} {dr : DT} {xt : XT} {app : App} {cal : CallT} (hdr : DrOk E X dr) (hxt : XOk X xt) (happ : AppOk E X app) (hcal : CallOk E X cal) : CallOk E X (callC E dr xt app cal) := by
  intro f args A K h hw
  unfold callC at h
  rcases orec_or h with ⟨b, hb, h1⟩ | ⟨_, h1⟩
  · have h2 : b = true := h1
    subst h2
    obtain ⟨v, A', hx, hl, hk⟩ := hxt _ _ _ _ hb hw
    exact ⟨v, A', .ext hx, hl, hk⟩
  · obtain ⟨fn, hf, h2⟩ := orec_false h1
    obtain ⟨c, hc, h3⟩ := orec_false h2
    rw [args3_eq] at h3
    obtain ⟨e, c', tm', A1, hb, hl, hk⟩ := codeC_of hdr happ _ _ _ _ _ _ h3 hw
    have fin : finC E cal fn.results.toList K c' tm' A1 = true ∧ (e = .normal ∨ e = .ret) := by
      cases e with
      | normal => exact ⟨hk, .inl rfl⟩
      | exit id => cases hk
      | ret => exact ⟨hk, .inr rfl⟩
    obtain ⟨hfin, he⟩ := fin
    obtain ⟨A2, hb2, hl2, h4⟩ := leaveK_of hcal hfin hl.wf
    obtain ⟨l, hr, h5⟩ := resK_of h4
    have e0 : (⟨f, none, Nat.add (0 + args.length) (Nat.sub fn.ntmps (0 + args.length)), []⟩ : Ctx).st (T.putList .e 0 args) =
        { fn := f, rd := none, n := args.length + (fn.ntmps - args.length), tmps := T.ofList args, ds := [] } := by
      simp only [Ctx.st, Nat.zero_add]; rfl
    rw [e0] at hb
    exact ⟨_, A2, .call hf hc hb he hb2 hr, hl.trans hl2, h5⟩

def setAllK (ps : List Tmp) : List Value → T Value → (T Value → Bool) → Bool :=
  List.rec (motive := fun _ => List Value → T Value → (T Value → Bool) → Bool) (fun _ t K => K t) (fun p _ ih vs t K => match vs with
    | [] => K t
    | v :: vs => t.setC p v fun t => ih vs t K) ps
theorem setAllK_eq (ps : List Tmp) : ∀ (vs : List Value) (t : T Value) (K : T Value → Bool), setAllK ps vs t K = K (setAll t (ps.zip vs)) := by
  induction ps with
  | nil => intro vs t K; rfl
  | cons p ps ih =>
    intro vs t K
    cases vs with
    | nil => rfl
    | cons v vs =>
      have e : setAllK (p :: ps) (v :: vs) t K = t.setC p v fun t => setAllK ps vs t K := rfl
      rw [e, T.setC_eq, ih]; rfl

def yendC (l : Nat) (K : KV) (e : AExit) (c : Ctx) (A : AHeap) : Bool :=
  match c.ds, A.obj l with
  | [], some (.loop ⟨_, _, fn, n, tmps, params, asg, body, D⟩) => setH A l (.loop ⟨if (jumpOf e).isNone then .ready else .done, jumpOf e, fn, n, tmps, params, asg, body, D⟩) fun A => fB (jumpOf e).isNone fun b => K (.bool b) A
  | _, _ => false
def yieldC (E : Env P) (dr : DT) (app : App) (l : Nat) (args : List Value) (A : AHeap) (K : KV) : Bool :=
  match A.obj l with
  | some (.loop ⟨_, _, fn, n, tmps, params, asg, body, _⟩) =>
    Bool.rec (motive := fun _ => Bool) false
    (setAllK params.toList args tmps fun tm => codeC E dr app asg ⟨fn, some l, n, []⟩ tm A (fun c tm A => match A.obj l with
      | some (.loop ⟨.ready, pd, fn, n, tmps, params, asg, body', D⟩) => setH A l (.loop ⟨.busy, pd, fn, n, tmps, params, asg, body', D⟩) fun A =>
        codeC E dr app body c tm A (fun c _ A => yendC l K .normal c A) (fun e c _ A => yendC l K e c A)
      | _ => false) (fun _ _ _ _ => false)) (Nat.beq args.length params.size && params.toList.all fun i => Nat.blt i n)
  | _ => false

theorem yieldC_of {E : Env P} {X : Ext0} {dr : DT} {app : App} (hdr : DrOk E X dr) (happ : AppOk E X app) {l : Nat} {args : List Value} {A : AHeap} {K : KV} (h : yieldC E dr app l args A K = true) (hw : WF A) :
    ∃ v A', BS E X (.yld l args A v A') ∧ Low A A' ∧ K v A' = true := by
  unfold yieldC at h
  split at h
  · rename_i st0 pd0 fn n tmps params asg body D0 hl0
    obtain ⟨hc, h1⟩ := brec_false h
    simp only [Bool.and_eq_true, List.all_eq_true] at hc
    obtain ⟨hc1, hc2⟩ := hc
    rw [setAllK_eq] at h1
    obtain ⟨e, c1, tm1, A1, hb, hlo, hk⟩ := codeC_of hdr happ _ _ _ _ _ _ h1 hw
    cases e with
    | normal =>
      have hk' : (match A1.obj l with
        | some (.loop ⟨.ready, pd, fn, n, tmps, params, asg, body', D⟩) => setH A1 l (.loop ⟨.busy, pd, fn, n, tmps, params, asg, body', D⟩) fun A =>
          codeC E dr app body c1 tm1 A (fun c _ A => yendC l K .normal c A) (fun e c _ A => yendC l K e c A)
        | _ => false) = true := hk
      split at hk'
      · rename_i pd1 fn1 n1 tmps1 ps1 as1 bd1 D1 hl1
        rw [setH_eq] at hk'
        have hlo1 := hlo.wf.set' (o' := .loop ⟨.busy, pd1, fn1, n1, tmps1, ps1, as1, bd1, D1⟩) hl1
        obtain ⟨e2, c2, tm2, A3, hb2, hlo2, hk2⟩ := codeC_of hdr happ _ _ _ _ _ _ hk' hlo1.wf
        have hk3 : yendC l K e2 c2 A3 = true := by cases e2 <;> exact hk2
        unfold yendC at hk3
        split at hk3
        · rename_i st3 pd3 fn3 n3 tmps3 ps3 as3 bd3 D3 hds hl3
          rw [setH_eq, fB_eq] at hk3
          have hlo3 := hlo2.wf.set' (o' := .loop ⟨if (jumpOf e2).isNone then .ready else .done, jumpOf e2, fn3, n3, tmps3, ps3, as3, bd3, D3⟩) hl3
          exact ⟨_, _, .yield hl0 (Nat.eq_of_beq_eq_true hc1) (fun i hi => Nat.lt_of_succ_le (Nat.le_of_ble_eq_true (hc2 i hi))) hb hl1 rfl hb2 hds hl3, ((hlo.trans hlo1).trans hlo2).trans hlo3, hk3⟩
        · cases hk3
      · cases hk'
    | exit id => cases hk
    | ret => cases hk
  · cases h

/-- Calls of values, and calls of functions. -/
abbrev Both := Option FuncId → Value → List Value → AHeap → KV → Bool
def appOf (b : Both) : App := fun fv args A K => b none fv args A K
def calOf (b : Both) : CallT := fun f args A K => b (some f) undef args A K
def runC (E : Env P) (dr : DT) (xt : XT) (n : Nat) : Both :=
  Nat.rec (motive := fun _ => Both) (fun _ _ _ _ _ => false) (fun _ ih w fv args A K => Option.rec (motive := fun _ => Bool)
    (vFunc fv fun f first cap => match f with
      | .func f => callC E dr xt (appOf ih) (calOf ih) f (first.toList ++ args ++ cap.toList) A K
      | .yield l => Bool.rec (motive := fun _ => Bool) false (yieldC E dr (appOf ih) l args A K) (first.isEmpty && cap.isEmpty)
      | _ => false)
    (fun f => callC E dr xt (appOf ih) (calOf ih) f args A K) w) n

theorem runC_of {E : Env P} {X : Ext0} {dr : DT} {xt : XT} (hdr : DrOk E X dr) (hxt : XOk X xt) (n : Nat) : AppOk E X (appOf (runC E dr xt n)) ∧ CallOk E X (calOf (runC E dr xt n)) := by
  induction n with
  | zero => exact ⟨fun _ _ _ _ h => (by cases h), fun _ _ _ _ h => (by cases h)⟩
  | succ n ih =>
    obtain ⟨iha, ihc⟩ := ih
    refine ⟨fun fv args A K h hw => ?_, fun f args A K h hw => ?_⟩
    · have h' : (vFunc fv fun f first cap => match f with
        | .func f => callC E dr xt (appOf (runC E dr xt n)) (calOf (runC E dr xt n)) f (first.toList ++ args ++ cap.toList) A K
        | .yield l => Bool.rec (motive := fun _ => Bool) false (yieldC E dr (appOf (runC E dr xt n)) l args A K) (first.isEmpty && cap.isEmpty)
        | _ => false) = true := h
      obtain ⟨f, first, cap, rfl, h2⟩ := vFunc_of h'
      split at h2
      · obtain ⟨v, A', hb, hl, hk⟩ := callC_of hdr hxt iha ihc _ _ _ _ h2 hw
        exact ⟨v, A', .appFn hb, hl, hk⟩
      · obtain ⟨hc, h3⟩ := brec_false h2
        simp only [Bool.and_eq_true, Array.isEmpty_iff] at hc
        obtain ⟨rfl, rfl⟩ := hc
        obtain ⟨v, A', hb, hl, hk⟩ := yieldC_of hdr iha h3 hw
        exact ⟨v, A', .appYield hb, hl, hk⟩
      · cases h2
    · exact callC_of hdr hxt iha ihc _ _ _ _ h hw

end
end Go.Abs
