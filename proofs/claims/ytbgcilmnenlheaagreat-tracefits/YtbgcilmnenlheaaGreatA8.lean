/- Walking over slim code: first-order words, so that no walk looks into what is still to come. -/
import Derived.Test.YtbgcilmnenlheaaGreatA7
set_option linter.unusedSimpArgs false
set_option linter.unusedVariables false
namespace Go.Abs
open Go
set_option linter.unusedSimpArgs false
noncomputable section
variable {P : Program} (E : Env P) (X0 : Ext0)

/-- What is still to come. -/
inductive Kt where
  | top (K : KTP) (X : KXP)
  | seq (b : SC) (k : Kt)
  | blk (id : Nat) (k : Kt)
structure WX where
  fn : FuncId
  rd : Option Nat
  n : Nat
def kx (w : WX) (k : Kt) : KTP × KXP :=
  Kt.rec (motive := fun _ => KTP × KXP) (fun K X => (K, X)) (fun b _ ih => (fun ds ρ A => wpS E X0 w.fn w.rd w.n b ih.1 ih.2 ds ρ A, ih.2)) (fun id _ ih => (ih.1, wBlk id ih.1 ih.2)) k
def rC (w : WX) (c : SC) (k : Kt) (ds : List Deferred) (ρ : Rho) (A : AHeap) : Prop := wpS E X0 w.fn w.rd w.n c (kx E X0 w k).1 (kx E X0 w k).2 ds ρ A
def rO (w : WX) (l : List SO) (k : Kt) (ds : List Deferred) (ρ : Rho) (A : AHeap) : Prop := sOps E X0 w.rd l (kx E X0 w k).1 ds ρ A
def rK (w : WX) (k : Kt) (ds : List Deferred) (ρ : Rho) (A : AHeap) : Prop := (kx E X0 w k).1 ds ρ A
def rX (w : WX) (e : AExit) (k : Kt) (ds : List Deferred) (ρ : Rho) (A : AHeap) : Prop := (kx E X0 w k).2 e ds ρ A
def rR (w : WX) (A0 : AHeap) (ag : List SO) (l : List (Nat × SO)) (k : Kt) (ds : List Deferred) (ρ : Rho) (A : AHeap) : Prop := sRun E X0 A0 ag l ρ A fun ρ A => (kx E X0 w k).1 ds ρ A

def updO (ρ : Rho) (d : Option Tmp) (v : Value) : Rho := match d with
  | none => ρ
  | some d => upd ρ d v
theorem sPut_updO {ρ : Rho} {d : Option Tmp} {v : Value} {k : Rho → Prop} : sPut ρ d v k = k (updO ρ d v) := by cases d <;> rfl

/-- One operation, then the others. -/
def gO (w : WX) (e : Option (Value × AHeap)) (d : Option Tmp) (l : List SO) (k : Kt) (ds : List Deferred) (ρ : Rho) : Prop := ∃ v A', e = some (v, A') ∧ rO E X0 w l k ds (updO ρ d v) A'
def gC (w : WX) (fv : Option Value) (args : Option (List Value)) (d : Option Tmp) (l : List SO) (k : Kt) (ds : List Deferred) (ρ : Rho) (A : AHeap) : Prop :=
  ∃ f a, fv = some f ∧ args = some a ∧ wApp E X0 f a A fun v A' => rO E X0 w l k ds (updO ρ d v) A'
def gG (w : WX) (v : Value) (b : Bool) (d : Option Tmp) (op : Op) (l : List SO) (k : Kt) (ds : List Deferred) (ρ : Rho) (A : AHeap) : Prop :=
  wG v b (rO E X0 w (⟨.always, d, op⟩ :: l) k ds ρ A) (rO E X0 w l k ds (updO ρ d undef) A)
def gIf (w : WX) (v : Option Value) (a b : SC) (k : Kt) (ds : List Deferred) (ρ : Rho) (A : AHeap) : Prop := ∃ t, v = some (.bool t) ∧ (t = true → rC E X0 w a k ds ρ A) ∧ (t = false → rC E X0 w b k ds ρ A)
/-- Of a drawn region. -/
def gR (w : WX) (e : Option (Value × AHeap)) (d : Option Tmp) (A0 : AHeap) (ag : List SO) (l : List (Nat × SO)) (k : Kt) (ds : List Deferred) (ρ : Rho) : Prop := ∃ v A', e = some (v, A') ∧ rR E X0 w A0 ag l k ds (updO ρ d v) A'
def gR5 (w : WX) (e : Option (Value × AHeap)) (d : Option Tmp) (A0 : AHeap) (ag : List SO) (l : List (Nat × SO)) (k : Kt) (ds : List Deferred) (ρ : Rho) (A : AHeap) : Prop := ∃ v A', e = some (v, A') ∧ rR E X0 w A0 ag l k ds (updO ρ d v) A
def gRC (w : WX) (fv : Option Value) (args : Option (List Value)) (d : Option Tmp) (A0 : AHeap) (ag : List SO) (l : List (Nat × SO)) (k : Kt) (ds : List Deferred) (ρ : Rho) (A : AHeap) : Prop :=
  ∃ f a, fv = some f ∧ args = some a ∧ wApp E X0 f a A fun v A' => rR E X0 w A0 ag l k ds (updO ρ d v) A'
def gRQ (w : WX) (fv : Option Value) (args : Option (List Value)) (d : Option Tmp) (A0 : AHeap) (ag : List SO) (l : List (Nat × SO)) (k : Kt) (ds : List Deferred) (ρ : Rho) (A : AHeap) : Prop :=
  ∃ f a, fv = some f ∧ args = some a ∧ wAppQ E X0 f a A fun v A' => rR E X0 w A0 ag l k ds (updO ρ d v) A'
def gRG (w : WX) (v : Value) (b : Bool) (g : Nat) (d : Option Tmp) (op : Op) (A0 : AHeap) (ag : List SO) (l : List (Nat × SO)) (k : Kt) (ds : List Deferred) (ρ : Rho) (A : AHeap) : Prop :=
  wG v b (rR E X0 w A0 ag ((g, ⟨.always, d, op⟩) :: l) k ds ρ A) (rR E X0 w A0 ag l k ds (updO ρ d undef) A)
def agOk (ag : List SO) (ρ : Rho) (A : AHeap) : Prop := sAg E ag ρ A True
/-- Tag 4, behind its checks. -/
def rR4 (w : WX) (g : SG) (d : Option Tmp) (op : Op) (A0 : AHeap) (ag : List SO) (l : List (Nat × SO)) (k : Kt) (ds : List Deferred) (ρ : Rho) (A : AHeap) : Prop :=
  sGd g ρ (sStep E X0 ⟨g, d, op⟩ ρ A fun ρ A => rR E X0 w A0 ag l k ds ρ A) (sPut ρ d undef fun ρ' => rR E X0 w A0 ag l k ds ρ' A)

variable {E} {X0}
/-! ### Little words -/
def b1 {α : Type} (a : Option Value) (f : Value → Option α) : Option α := match a with
  | some p => f p
  | none => none
def b2 {α : Type} (a b : Option Value) (f : Value → Value → Option α) : Option α := match a, b with
  | some p, some q => f p q
  | _, _ => none
def b3 {α : Type} (a b c : Option Value) (f : Value → Value → Value → Option α) : Option α := match a, b, c with
  | some p, some q, some r => f p q r
  | _, _, _ => none
def bl {α β : Type} (a : Option α) (f : α → Option β) : Option β := match a with
  | some p => f p
  | none => none
def vA (e : Option Value) (A : AHeap) : Option (Value × AHeap) := match e with
  | some v => some (v, A)
  | none => none
def hA (e : Option AHeap) : Option (Value × AHeap) := match e with
  | some A => some (undef, A)
  | none => none
def pickV (c x y : Value) (A : AHeap) : Option (Value × AHeap) := match c with
  | .bool t => some (bif t then x else y, A)
  | _ => none
theorem b1_some {α : Type} {p : Value} {f : Value → Option α} : b1 (some p) f = f p := rfl
theorem b2_some {α : Type} {p q : Value} {f : Value → Value → Option α} : b2 (some p) (some q) f = f p q := rfl
theorem b3_some {α : Type} {p q r : Value} {f : Value → Value → Value → Option α} : b3 (some p) (some q) (some r) f = f p q r := rfl
theorem bl_some {α β : Type} {p : α} {f : α → Option β} : bl (some p) f = f p := rfl
theorem vA_some {v : Value} {A : AHeap} : vA (some v) A = some (v, A) := rfl
theorem hA_some {A : AHeap} : hA (some A) = some (undef, A) := rfl
theorem pickV_bool {t : Bool} {x y : Value} {A : AHeap} : pickV (.bool t) x y A = some (bif t then x else y, A) := rfl
theorem updO_some {ρ : Rho} {d : Nat} {v : Value} : updO ρ (some d) v = upd ρ d v := rfl
theorem updO_none {ρ : Rho} {v : Value} : updO ρ none v = ρ := rfl
theorem evList_nil {r : Operand → Option Value} : evList r [] = some [] := rfl
theorem evList_cons {r : Operand → Option Value} {x : Operand} {l : List Operand} : evList r (x :: l) = b1 (r x) fun v => bl (evList r l) fun l => some (v :: l) := by
  simp only [evList, b1, bl]
  cases r x <;> cases evList r l <;> rfl
theorem evParts_nil {r : Operand → Option Value} : evParts r [] = some [] := rfl
theorem evParts_cons {r : Operand → Option Value} {i : Nat} {x : Operand} {l : List (Nat × Operand)} : evParts r ((i, x) :: l) = b1 (r x) fun v => bl (evParts r l) fun l => some ((i, v) :: l) := by
  simp only [evParts, b1, bl]
  cases r x <;> cases evParts r l <;> rfl
theorem evOpt_none' {r : Operand → Option Value} : evOpt r none = some none := rfl
theorem evOpt_some' {r : Operand → Option Value} {x : Operand} : evOpt r (some x) = b1 (r x) fun v => some (some v) := by
  simp only [evOpt, b1]
  cases r x <;> rfl

section
variable {r : Operand → Option Value} {A : AHeap}
theorem a_move {x} : aop E (mkO (.move x)) r A = b1 (r x) fun v => some (v, A) := by
  unfold aop mkO
  simp only [b1, b2, b3, bl, vA, hA, pickV]
  repeat' (first | rfl | split | simp_all)
theorem a_assign {x} : aop E (mkO (.assign x)) r A = b1 (r x) fun v => some (v, A) := by
  unfold aop mkO
  simp only [b1, b2, b3, bl, vA, hA, pickV]
  repeat' (first | rfl | split | simp_all)
theorem a_pick {c a b} : aop E (mkO (.pick c a b)) r A = b3 (r c) (r a) (r b) fun c x y => pickV c x y A := by
  unfold aop mkO
  simp only [b1, b2, b3, bl, vA, hA, pickV]
  repeat' (first | rfl | split | simp_all)
theorem a_alloc {t} : aop E (mkO (.alloc t)) r A = aAlloc E t A := by
  unfold aop mkO
  simp only [b1, b2, b3, bl, vA, hA, pickV]
  repeat' (first | rfl | split | simp_all)
theorem a_box {t x} : aop E (mkO (.box t x)) r A = b1 (r x) fun v => some (aBox v A) := by
  unfold aop mkO
  simp only [b1, b2, b3, bl, vA, hA, pickV]
  repeat' (first | rfl | split | simp_all)
theorem a_build {t ps} : aop E (mkO (.build t ps)) r A = bl (evParts r ps.toList) fun l => vA (aBuild E t l) A := by
  unfold aop mkO
  simp only [b1, b2, b3, bl, vA, hA, pickV]
  repeat' (first | rfl | split | simp_all)
theorem a_buildSlice {t n ps} : aop E (mkO (.buildSlice t n ps)) r A = bl (evParts r ps.toList) fun l => aBuildSlice E t n l A := by
  unfold aop mkO
  simp only [b1, b2, b3, bl, vA, hA, pickV]
  repeat' (first | rfl | split | simp_all)
theorem a_load {t x} : aop E (mkO (.load t x)) r A = b1 (r x) fun p => vA (aLoad E t p A) A := by
  unfold aop mkO
  simp only [b1, b2, b3, bl, vA, hA, pickV]
  repeat' (first | rfl | split | simp_all)
theorem a_store {t x y} : aop E (mkO (.store t x y)) r A = b2 (r x) (r y) fun p v => hA (aStore E t p v A) := by
  unfold aop mkO
  simp only [b1, b2, b3, bl, vA, hA, pickV]
  repeat' (first | rfl | split | simp_all)
theorem a_nilCheck {x} : aop E (mkO (.nilCheck x)) r A = b1 (r x) fun p => vA (aNilCheck p) A := by
  unfold aop mkO
  simp only [b1, b2, b3, bl, vA, hA, pickV]
  repeat' (first | rfl | split | simp_all)
theorem a_binOp {op t x y u} : aop E (mkO (.binOp op t x y u)) r A = b2 (r x) (r y) fun p q => vA (aBin E op t p q) A := by
  unfold aop mkO
  simp only [b1, b2, b3, bl, vA, hA, pickV]
  repeat' (first | rfl | split | simp_all)
theorem a_unOp {op t x} : aop E (mkO (.unOp op t x)) r A = b1 (r x) fun p => vA (aUn op p) A := by
  unfold aop mkO
  simp only [b1, b2, b3, bl, vA, hA, pickV]
  repeat' (first | rfl | split | simp_all)
theorem a_convert {s t x} : aop E (mkO (.convert s t x)) r A = b1 (r x) fun p => vA (aConvert E s t p A) A := by
  unfold aop mkO
  simp only [b1, b2, b3, bl, vA, hA, pickV]
  repeat' (first | rfl | split | simp_all)
theorem a_makeFunc {f a c} : aop E (mkO (.makeFunc (.func f) a c)) r A = bl (evList r a.toList) fun a => bl (evList r c.toList) fun c => some (.func (.func f) a.toArray c.toArray, A) := by
  unfold aop mkO
  simp only [b1, b2, b3, bl, vA, hA, pickV]
  repeat' (first | rfl | split | simp_all)
theorem a_makeMap {t} : aop E (mkO (.makeMap t none)) r A = some (.map (some A.next), A.push (.map [])) := by
  unfold aop mkO
  simp only [b1, b2, b3, bl, vA, hA, pickV]
  repeat' (first | rfl | split | simp_all)
theorem a_makeSlice {t x z} : aop E (mkO (.makeSlice t x z)) r A = b2 (r x) (r z) fun x y => aMakeSlice E t x y A := by
  unfold aop mkO
  simp only [b1, b2, b3, bl, vA, hA, pickV]
  repeat' (first | rfl | split | simp_all)
theorem a_slice {t x lo hi mx} : aop E (mkO (.slice t x lo hi mx)) r A = b1 (r x) fun v => bl (evOpt r lo) fun l => bl (evOpt r hi) fun h => bl (evOpt r mx) fun m => vA (aSlice E t v l h m A) A := by
  unfold aop mkO
  simp only [b1, bl, vA]
  cases r x <;> cases evOpt r lo <;> cases evOpt r hi <;> cases evOpt r mx <;> first | rfl | (split <;> rfl)
theorem a_fieldAddr {t x f} : aop E (mkO (.fieldAddr t x f)) r A = b1 (r x) fun p => vA (aFieldAddr E t p f) A := by
  unfold aop mkO
  simp only [b1, b2, b3, bl, vA, hA, pickV]
  repeat' (first | rfl | split | simp_all)
theorem a_field {t x f} : aop E (mkO (.field t x f)) r A = b1 (r x) fun p => vA (aField E t p f) A := by
  unfold aop mkO
  simp only [b1, b2, b3, bl, vA, hA, pickV]
  repeat' (first | rfl | split | simp_all)
theorem a_indexAddr {t x y} : aop E (mkO (.indexAddr t x y)) r A = b2 (r x) (r y) fun p q => vA (aIndexAddr E t p q) A := by
  unfold aop mkO
  simp only [b1, b2, b3, bl, vA, hA, pickV]
  repeat' (first | rfl | split | simp_all)
theorem a_index {t x y} : aop E (mkO (.index t x y)) r A = b2 (r x) (r y) fun p q => vA (aIndex E t p q) A := by
  unfold aop mkO
  simp only [b1, b2, b3, bl, vA, hA, pickV]
  repeat' (first | rfl | split | simp_all)
theorem a_lookup {t x y ok} : aop E (mkO (.lookup t x y ok)) r A = b2 (r x) (r y) fun p q => vA (aLookup E t p q ok A) A := by
  unfold aop mkO
  simp only [b1, b2, b3, bl, vA, hA, pickV]
  repeat' (first | rfl | split | simp_all)
theorem a_mapUpdate {t x y z} : aop E (mkO (.mapUpdate t x y z)) r A = b3 (r x) (r y) (r z) fun p q w => hA (aMapUpdate E t p q w A) := by
  unfold aop mkO
  simp only [b1, b2, b3, bl, vA, hA, pickV]
  repeat' (first | rfl | split | simp_all)
theorem a_extract {x i} : aop E (mkO (.extract x i)) r A = b1 (r x) fun p => vA (aExtract p i) A := by
  unfold aop mkO
  simp only [b1, b2, b3, bl, vA, hA, pickV]
  repeat' (first | rfl | split | simp_all)
theorem a_builtin {b args ats} : aop E (mkO (.call ⟨.builtin b, args, ats⟩)) r A = bl (evList r args.toList) fun l => aBuiltin E b ats l A := by
  unfold aop mkO
  simp only [b1, b2, b3, bl, vA, hA, pickV]
  repeat' (first | rfl | split | simp_all)
end
end
end Go.Abs

/- Walking over slim code: the words' laws, first-order. -/
namespace Go.Abs
open Go
set_option linter.unusedSimpArgs false
noncomputable section
variable {P : Program} {E : Env P} {X0 : Ext0}

def plainOp (op : Op) : Bool := match op with
  | .call c => match c.callee with
    | .builtin _ => true
    | _ => false
  | .defer _ => false
  | _ => true

theorem wOp_intro {o : Oper} {ρ : Rho} {A A' : AHeap} {v : Value} {k : Value → AHeap → Prop} (h : aop E o (evR ρ) A = some (v, A')) (hk : k v A') : wOp E o ρ A k := by
  have wE_i : ∀ {e : Option Value} {k : Value → Prop} {v : Value}, e = some v → k v → wE e k := fun e h => by rw [e]; exact h
  have wEs_i : ∀ {l : List Operand} {k : List Value → Prop} {v : List Value}, evList (evR ρ) l = some v → k v → wEs ρ l k := by
    intro l
    induction l with
    | nil => intro k v e h; simp only [evList, Option.some.injEq] at e; subst e; exact h
    | cons x r ih =>
      intro k v e h
      simp only [evList] at e
      split at e
      · cases e
      · rename_i y hy
        split at e
        · cases e
        · rename_i l hl
          cases e
          exact wE_i (k := fun v => wEs ρ r fun l => k (v :: l)) hy (ih hl h)
  have wParts_i : ∀ {l : List (Nat × Operand)} {k : List (Nat × Value) → Prop} {v : List (Nat × Value)}, evParts (evR ρ) l = some v → k v → wParts ρ l k := by
    intro l
    induction l with
    | nil => intro k v e h; simp only [evParts, Option.some.injEq] at e; subst e; exact h
    | cons x r ih =>
      intro k v e h
      obtain ⟨i, x⟩ := x
      simp only [evParts] at e
      split at e
      · cases e
      · rename_i y hy
        split at e
        · cases e
        · rename_i l hl
          cases e
          exact wE_i (k := fun v => wParts ρ r fun l => k ((i, v) :: l)) hy (ih hl h)
  have wOpt_i : ∀ {l : Option Operand} {k : Option Value → Prop} {v : Option Value}, evOpt (evR ρ) l = some v → k v → wOpt ρ l k := by
    intro l k v e h
    cases l with
    | none => simp only [evOpt, Option.some.injEq] at e; subst e; exact h
    | some x =>
      simp only [evOpt] at e
      split at e
      · cases e
      · rename_i y hy; cases e; exact wE_i (k := fun v => k (some v)) hy h
  unfold wOp
  unfold aop at h
  generalize o.op = op at h
  cases op <;> simp only at h ⊢ <;> try (cases h; done)
  case makeFunc fn a c =>
    cases fn <;> simp only at h ⊢ <;> try (cases h; done)
    split at h
    · rename_i x y hx hy; cases h; exact wEs_i hx (wEs_i hy hk)
    · cases h
  case makeMap t r => cases r <;> simp only at h ⊢ <;> first | (cases h; done) | (cases h; exact hk)
  case call c =>
    cases hc : c.callee with
    | builtin b =>
      simp only [hc] at h ⊢
      split at h
      · rename_i l hl; exact wEs_i hl ⟨_, _, h, hk⟩
      · cases h
    | value f => simp only [hc] at h; cases h
    | invoke a b => simp only [hc] at h; cases h
  case pick c a b =>
    split at h
    · rename_i t x y hc hx hy
      cases h
      refine wE_i hc (wE_i hx (wE_i hy ⟨t, rfl, ?_⟩))
      cases t <;> exact hk
    · cases h
  case slice t x lo hi mx =>
    split at h
    · rename_i p a b c hp ha hb hc
      split at h
      · rename_i v' hv; cases h; exact wE_i hp (wOpt_i ha (wOpt_i hb (wOpt_i hc ⟨_, hv, hk⟩)))
      · cases h
    · cases h
  all_goals first
    | (split at h
       · rename_i x hx; cases h; exact wE_i hx hk
       · cases h)
    | exact ⟨_, _, h, hk⟩
    | (split at h
       · rename_i x hx
         first
           | (cases h; exact wE_i hx hk)
           | exact wParts_i hx ⟨_, _, h, hk⟩
           | (split at h
              · rename_i y hy; cases h; first | exact wE_i hx ⟨_, hy, hk⟩ | exact wParts_i hx ⟨_, hy, hk⟩
              · cases h)
       · cases h)
    | (split at h
       · rename_i x y hx hy
         first
           | exact wE_i hx (wE_i hy ⟨_, _, h, hk⟩)
           | (split at h
              · rename_i z hz; cases h; exact wE_i hx (wE_i hy ⟨_, hz, hk⟩)
              · cases h)
       · cases h)
    | (split at h
       · rename_i x y z hx hy hz
         split at h
         · rename_i w hw; cases h; exact wE_i hx (wE_i hy (wE_i hz ⟨_, hw, hk⟩))
         · cases h
       · cases h)
theorem wOp_iff {o : Oper} {ρ : Rho} {A : AHeap} {k : Value → AHeap → Prop} : wOp E o ρ A k ↔ ∃ v A', aop E o (evR ρ) A = some (v, A') ∧ k v A' :=
  ⟨wOp_of, fun ⟨_, _, h, hk⟩ => wOp_intro h hk⟩

section
variable {w : WX} {l : List SO} {k : Kt} {ds : List Deferred} {ρ : Rho} {A A0 : AHeap} {d : Option Tmp} {ag : List SO} {lr : List (Nat × SO)}
theorem r_skip : rC E X0 w .skip k ds ρ A = rK E X0 w k ds ρ A := propext Iff.rfl
theorem r_ops : rC E X0 w (.ops l) k ds ρ A = rO E X0 w l k ds ρ A := propext Iff.rfl
theorem r_draw : rC E X0 w (.draw ag lr) k ds ρ A = rR E X0 w A ag lr k ds ρ A := propext Iff.rfl
theorem r_seq {a b} : rC E X0 w (.seq a b) k ds ρ A = rC E X0 w a (.seq b k) ds ρ A := propext Iff.rfl
theorem r_blk {id a} : rC E X0 w (.blk id a) k ds ρ A = rC E X0 w a (.blk id k) ds ρ A := propext Iff.rfl
theorem r_exit {id} : rC E X0 w (.exit id) k ds ρ A = rX E X0 w (.exit id) k ds ρ A := propext Iff.rfl
theorem r_ret : rC E X0 w .ret k ds ρ A = rX E X0 w .ret k ds ρ A := propext Iff.rfl
theorem r_cond {x a b} : rC E X0 w (.cond x a b) k ds ρ A = gIf E X0 w (evR ρ x) a b k ds ρ A := by
  apply propext
  show wE (evR ρ x) (fun v => wIf v _ _) ↔ _
  constructor
  · intro h
    obtain ⟨v, hv, t, rfl, h1, h2⟩ := wE_of h
    exact ⟨t, hv, h1, h2⟩
  · rintro ⟨t, hv, h1, h2⟩
    rw [hv]; exact ⟨t, rfl, h1, h2⟩
theorem k_top {K : KTP} {X : KXP} : rK E X0 w (.top K X) ds ρ A = K ds ρ A := propext Iff.rfl
theorem k_seq {b} : rK E X0 w (.seq b k) ds ρ A = rC E X0 w b k ds ρ A := propext Iff.rfl
theorem k_blk {id} : rK E X0 w (.blk id k) ds ρ A = rK E X0 w k ds ρ A := propext Iff.rfl
theorem x_top {e} {K : KTP} {X : KXP} : rX E X0 w e (.top K X) ds ρ A = X e ds ρ A := propext Iff.rfl
theorem x_seq {e b} : rX E X0 w e (.seq b k) ds ρ A = rX E X0 w e k ds ρ A := propext Iff.rfl
theorem x_ret {id} : rX E X0 w .ret (.blk id k) ds ρ A = rX E X0 w .ret k ds ρ A := propext Iff.rfl
theorem x_exit {id id' : Nat} : rX E X0 w (.exit id') (.blk id k) ds ρ A = if id' = id then rK E X0 w k ds ρ A else rX E X0 w (.exit id') k ds ρ A := by
  show (bif Nat.beq id' id then rK E X0 w k ds ρ A else rX E X0 w (.exit id') k ds ρ A) = _
  by_cases h : id' = id
  · subst h; simp
  · have : Nat.beq id' id = false := by
      cases e : Nat.beq id' id with
      | false => rfl
      | true => exact absurd (Nat.eq_of_beq_eq_true e) h
    rw [this, if_neg h]; rfl
theorem o_nil : rO E X0 w [] k ds ρ A = rK E X0 w k ds ρ A := propext Iff.rfl
theorem o_on {b v op} : rO E X0 w (⟨.on b v, d, op⟩ :: l) k ds ρ A = gG E X0 w (ρ b) v d op l k ds ρ A := by
  unfold gG
  show wG (ρ b) v _ (sPut ρ d undef fun ρ' => rO E X0 w l k ds ρ' A) = _
  rw [sPut_updO]; rfl
theorem o_never {op} : rO E X0 w (⟨.never, d, op⟩ :: l) k ds ρ A = rO E X0 w l k ds (updO ρ d undef) A := by
  show (sPut ρ d undef fun ρ' => rO E X0 w l k ds ρ' A) = _
  rw [sPut_updO]
theorem sStep_plain {g op} {kr : Rho → AHeap → Prop} (h : plainOp op = true) : sStep E X0 ⟨g, d, op⟩ ρ A kr ↔ ∃ v A', aop E (mkO op) (evR ρ) A = some (v, A') ∧ kr (updO ρ d v) A' := by
  have key : (wOp E (mkO op) ρ A fun v A' => sPut ρ d v fun ρ' => kr ρ' A') ↔ ∃ v A', aop E (mkO op) (evR ρ) A = some (v, A') ∧ kr (updO ρ d v) A' := by
    rw [wOp_iff]
    simp only [sPut_updO]
  unfold sStep
  cases op <;> try exact key
  case call c =>
    simp only
    cases hc : c.callee with
    | builtin b => exact key
    | value f => simp [plainOp, hc] at h
    | invoke a b => simp [plainOp, hc] at h
theorem o_gen {op} (h : plainOp op = true) : rO E X0 w (⟨.always, d, op⟩ :: l) k ds ρ A = gO E X0 w (aop E (mkO op) (evR ρ) A) d l k ds ρ := by
  apply propext
  have e : rO E X0 w (⟨.always, d, op⟩ :: l) k ds ρ A = sStep E X0 ⟨.always, d, op⟩ ρ A fun ρ' A' => rO E X0 w l k ds ρ' A' := by
    cases op <;> first | rfl | (simp [plainOp] at h; done)
  rw [e]
  exact sStep_plain h
theorem o_call {f args ats} : rO E X0 w (⟨.always, d, .call ⟨.value f, args, ats⟩⟩ :: l) k ds ρ A = gC E X0 w (evR ρ f) (evList (evR ρ) args.toList) d l k ds ρ A := by
  apply propext
  show (wE (evR ρ f) fun fv => wEs ρ args.toList fun args => wApp E X0 fv args A fun v A' => sPut ρ d v fun ρ' => rO E X0 w l k ds ρ' A') ↔ _
  simp only [sPut_updO]
  constructor
  · intro h
    obtain ⟨fv, hf, h⟩ := wE_of h
    obtain ⟨vs, hv, h⟩ := wEs_of h
    exact ⟨fv, vs, hf, hv, h⟩
  · rintro ⟨fv, vs, hf, hv, h⟩
    rw [hf]
    exact wEs_intro hv h
where
  wEs_intro {ρ : Rho} {l : List Operand} {k : List Value → Prop} {v : List Value} (e : evList (evR ρ) l = some v) (h : k v) : wEs ρ l k := by
    induction l generalizing k v with
    | nil => simp only [evList, Option.some.injEq] at e; subst e; exact h
    | cons x r ih =>
      simp only [evList] at e
      split at e
      · cases e
      · rename_i y hy
        split at e
        · cases e
        · rename_i l hl
          cases e
          show wE (evR ρ x) (fun v => wEs ρ r fun l => k (v :: l))
          rw [hy]
          exact ih (k := fun l => k (y :: l)) hl h
/-- A deferred call. -/
def gD (E : Env P) (X0 : Ext0) (w : WX) (fv : Option Value) (args : Option (List Value)) (d : Option Tmp) (l : List SO) (k : Kt) (ds : List Deferred) (ρ : Rho) (A : AHeap) : Prop :=
  ∃ fn first cap a, fv = some (.func (.func fn) first cap) ∧ args = some a ∧ rO E X0 w l k ({ target := .fn (.func fn) cap, args := first ++ a.toArray } :: ds) (updO ρ d undef) A
theorem o_defer {f args ats fn n} : rO E X0 ⟨fn, none, n⟩ (⟨.always, d, .defer ⟨.value f, args, ats⟩⟩ :: l) k ds ρ A = gD E X0 ⟨fn, none, n⟩ (evR ρ f) (evList (evR ρ) args.toList) d l k ds ρ A := by
  apply propext
  show (wE (evR ρ f) fun fv => wEs ρ args.toList fun args => wFn fv fun fn' first cap => sPut ρ d undef fun ρ' => rO E X0 ⟨fn, none, n⟩ l k ({ target := .fn (.func fn') cap, args := first ++ args.toArray } :: ds) ρ' A) ↔ _
  simp only [sPut_updO]
  constructor
  · intro h
    obtain ⟨fv, hf, h⟩ := wE_of h
    obtain ⟨vs, hv, h⟩ := wEs_of h
    unfold wFn at h
    split at h
    · exact ⟨_, _, _, vs, hf, hv, h⟩
    · exact h.elim
  · rintro ⟨fn', first, cap, vs, hf, hv, h⟩
    rw [hf]
    exact o_call.wEs_intro hv h
theorem gO_some {v A'} : gO E X0 w (some (v, A')) d l k ds ρ = rO E X0 w l k ds (updO ρ d v) A' := by
  apply propext; constructor
  · rintro ⟨_, _, e, h⟩; cases e; exact h
  · exact fun h => ⟨_, _, rfl, h⟩
theorem gIf_true {a b} : gIf E X0 w (some (.bool true)) a b k ds ρ A = rC E X0 w a k ds ρ A := by
  apply propext; constructor
  · rintro ⟨t, e, h1, h2⟩; cases e; exact h1 rfl
  · exact fun h => ⟨true, rfl, fun _ => h, fun e => (by cases e)⟩
theorem gIf_false {a b} : gIf E X0 w (some (.bool false)) a b k ds ρ A = rC E X0 w b k ds ρ A := by
  apply propext; constructor
  · rintro ⟨t, e, h1, h2⟩; cases e; exact h2 rfl
  · exact fun h => ⟨false, rfl, fun e => (by cases e), fun _ => h⟩
theorem gIf_bool {t a b} : gIf E X0 w (some (.bool t)) a b k ds ρ A = ((t = true → rC E X0 w a k ds ρ A) ∧ (t = false → rC E X0 w b k ds ρ A)) := by
  apply propext; constructor
  · rintro ⟨t, e, h1, h2⟩; cases e; exact ⟨h1, h2⟩
  · exact fun h => ⟨t, rfl, h.1, h.2⟩
theorem gG_tt {op} : gG E X0 w (.bool true) true d op l k ds ρ A = rO E X0 w (⟨.always, d, op⟩ :: l) k ds ρ A := wG_tt
theorem gG_tf {op} : gG E X0 w (.bool true) false d op l k ds ρ A = rO E X0 w l k ds (updO ρ d undef) A := wG_tf
theorem gG_ft {op} : gG E X0 w (.bool false) true d op l k ds ρ A = rO E X0 w l k ds (updO ρ d undef) A := wG_ft
theorem gG_ff {op} : gG E X0 w (.bool false) false d op l k ds ρ A = rO E X0 w (⟨.always, d, op⟩ :: l) k ds ρ A := wG_ff
theorem gG_undef {b op} : gG E X0 w undef b d op l k ds ρ A = rO E X0 w l k ds (updO ρ d undef) A := wG_undef
theorem gC_fn {f first cap args} (h : wCall E X0 f (first.toList ++ args ++ cap.toList) A fun v A' => rO E X0 w l k ds (updO ρ d v) A') : gC E X0 w (some (.func (.func f) first cap)) (some args) d l k ds ρ A :=
  ⟨_, _, rfl, rfl, wApp_fn h⟩
theorem gC_call {f args} (h : wCall E X0 f args A fun v A' => rO E X0 w l k ds (updO ρ d v) A') : gC E X0 w (some (.func (.func f) #[] #[])) (some args) d l k ds ρ A :=
  gC_fn (by simpa using h)
theorem gC_yld {L args} (h : wYld E X0 L args A fun v A' => rO E X0 w l k ds (updO ρ d v) A') : gC E X0 w (some (.func (.yield L) #[] #[])) (some args) d l k ds ρ A :=
  ⟨_, _, rfl, rfl, wApp_yld h⟩
/-! ### Drawn -/
theorem rr_nil : rR E X0 w A0 ag [] k ds ρ A = (agOk E ag ρ A ∧ rK E X0 w k ds ρ A) := by
  apply propext
  exact sAg_and
where
  sAg_and {ag : List SO} {ρ : Rho} {A : AHeap} {k : Prop} : sAg E ag ρ A k ↔ (sAg E ag ρ A True ∧ k) := by
    induction ag with
    | nil => exact ⟨fun h => ⟨trivial, h⟩, fun h => h.2⟩
    | cons o r ih =>
      show (match o.d with
        | some d => wOp E (mkO o.op) ρ A fun v _ => v = ρ d ∧ sAg E r ρ A k
        | none => False) ↔ (match o.d with
        | some d => wOp E (mkO o.op) ρ A fun v _ => v = ρ d ∧ sAg E r ρ A True
        | none => False) ∧ k
      cases o.d with
      | none => simp
      | some d =>
        simp only [wOp_iff, ih]
        constructor
        · rintro ⟨v, A', h1, h2, h3, h4⟩; exact ⟨⟨v, A', h1, h2, h3⟩, h4⟩
        · rintro ⟨⟨v, A', h1, h2, h3⟩, h4⟩; exact ⟨v, A', h1, h2, h3, h4⟩
theorem rr_on {g b v op} : rR E X0 w A0 ag ((g, ⟨.on b v, d, op⟩) :: lr) k ds ρ A = (if g = 4 then (agOk E ag ρ A ∧ wG (ρ b) v (rR4 E X0 w .always d op A0 ag lr k ds ρ A) (rR E X0 w A0 ag lr k ds (updO ρ d undef) A)) else gRG E X0 w (ρ b) v g d op A0 ag lr k ds ρ A) := by
  by_cases hg : g = 4
  · subst hg
    rw [if_pos rfl]
    apply propext
    show sAg E ag ρ A (wG (ρ b) v _ (sPut ρ d undef fun ρ' => rR E X0 w A0 ag lr k ds ρ' A)) ↔ _
    rw [rr_nil.sAg_and, sPut_updO]
    rfl
  · rw [if_neg hg]
    have : Nat.beq g 4 = false := by
      cases e : Nat.beq g 4 with
      | false => rfl
      | true => exact absurd (Nat.eq_of_beq_eq_true e) hg
    have h1 : rR E X0 w A0 ag ((g, ⟨.on b v, d, op⟩) :: lr) k ds ρ A = wG (ρ b) v (sTag E X0 A0 g ⟨.on b v, d, op⟩ ρ A fun ρ A => rR E X0 w A0 ag lr k ds ρ A) (sPut ρ d undef fun ρ' => rR E X0 w A0 ag lr k ds ρ' A) := by
      show (bif Nat.beq g 4 then sAg E ag ρ A (wG (ρ b) v (sTag E X0 A0 g ⟨.on b v, d, op⟩ ρ A fun ρ A => rR E X0 w A0 ag lr k ds ρ A) (sPut ρ d undef fun ρ' => rR E X0 w A0 ag lr k ds ρ' A))
        else wG (ρ b) v (sTag E X0 A0 g ⟨.on b v, d, op⟩ ρ A fun ρ A => rR E X0 w A0 ag lr k ds ρ A) (sPut ρ d undef fun ρ' => rR E X0 w A0 ag lr k ds ρ' A)) = _
      rw [this]; rfl
    have h2 : rR E X0 w A0 ag ((g, ⟨.always, d, op⟩) :: lr) k ds ρ A = sTag E X0 A0 g ⟨.always, d, op⟩ ρ A fun ρ A => rR E X0 w A0 ag lr k ds ρ A := by
      show (bif Nat.beq g 4 then sAg E ag ρ A (sTag E X0 A0 g ⟨.always, d, op⟩ ρ A fun ρ A => rR E X0 w A0 ag lr k ds ρ A)
        else sTag E X0 A0 g ⟨.always, d, op⟩ ρ A fun ρ A => rR E X0 w A0 ag lr k ds ρ A) = _
      rw [this]; rfl
    unfold gRG
    rw [h1, h2, sPut_updO]
    rfl
theorem rr_step {g op} (hg : g = 0 ∨ g = 1 ∨ g = 2) (h : plainOp op = true) : rR E X0 w A0 ag ((g, ⟨.always, d, op⟩) :: lr) k ds ρ A = gR E X0 w (aop E (mkO op) (evR ρ) A) d A0 ag lr k ds ρ := by
  apply propext
  have e : rR E X0 w A0 ag ((g, ⟨.always, d, op⟩) :: lr) k ds ρ A = sStep E X0 ⟨.always, d, op⟩ ρ A fun ρ' A' => rR E X0 w A0 ag lr k ds ρ' A' := by
    rcases hg with rfl | rfl | rfl <;> rfl
  rw [e]
  exact sStep_plain h
theorem rr_0 {op} (h : plainOp op = true) : rR E X0 w A0 ag ((0, ⟨.always, d, op⟩) :: lr) k ds ρ A = gR E X0 w (aop E (mkO op) (evR ρ) A) d A0 ag lr k ds ρ := rr_step (.inl rfl) h
theorem rr_1 {op} (h : plainOp op = true) : rR E X0 w A0 ag ((1, ⟨.always, d, op⟩) :: lr) k ds ρ A = gR E X0 w (aop E (mkO op) (evR ρ) A) d A0 ag lr k ds ρ := rr_step (.inr (.inl rfl)) h
theorem rr_2 {op} (h : plainOp op = true) : rR E X0 w A0 ag ((2, ⟨.always, d, op⟩) :: lr) k ds ρ A = gR E X0 w (aop E (mkO op) (evR ρ) A) d A0 ag lr k ds ρ := rr_step (.inr (.inr rfl)) h
theorem rr_5 {op} : rR E X0 w A0 ag ((5, ⟨.always, d, op⟩) :: lr) k ds ρ A = gR5 E X0 w (aop E (mkO op) (evR ρ) A0) d A0 ag lr k ds ρ A := by
  apply propext
  show (wOp E (mkO op) ρ A0 fun v _ => sPut ρ d v fun ρ' => rR E X0 w A0 ag lr k ds ρ' A) ↔ _
  rw [wOp_iff]
  simp only [sPut_updO]
  exact Iff.rfl
theorem rr_3 {f args ats} : rR E X0 w A0 ag ((3, ⟨.always, d, .call ⟨.value f, args, ats⟩⟩) :: lr) k ds ρ A = gRQ E X0 w (evR ρ f) (evList (evR ρ) args.toList) d A0 ag lr k ds ρ A := by
  apply propext
  show (wE (evR ρ f) fun fv => wEs ρ args.toList fun args => wAppQ E X0 fv args A fun v A' => sPut ρ d v fun ρ' => rR E X0 w A0 ag lr k ds ρ' A') ↔ _
  simp only [sPut_updO]
  constructor
  · intro h
    obtain ⟨fv, hf, h⟩ := wE_of h
    obtain ⟨vs, hv, h⟩ := wEs_of h
    exact ⟨fv, vs, hf, hv, h⟩
  · rintro ⟨fv, vs, hf, hv, h⟩
    rw [hf]
    exact o_call.wEs_intro hv h
theorem rr_4 {op} (h : plainOp op = true) : rR E X0 w A0 ag ((4, ⟨.always, d, op⟩) :: lr) k ds ρ A = (agOk E ag ρ A ∧ gR E X0 w (aop E (mkO op) (evR ρ) A) d A0 ag lr k ds ρ) := by
  apply propext
  show sAg E ag ρ A (sStep E X0 ⟨.always, d, op⟩ ρ A fun ρ' A' => rR E X0 w A0 ag lr k ds ρ' A') ↔ _
  rw [rr_nil.sAg_and, sStep_plain h]
  exact Iff.rfl
theorem rr_4c {f args ats} : rR E X0 w A0 ag ((4, ⟨.always, d, .call ⟨.value f, args, ats⟩⟩) :: lr) k ds ρ A = (agOk E ag ρ A ∧ gRC E X0 w (evR ρ f) (evList (evR ρ) args.toList) d A0 ag lr k ds ρ A) := by
  apply propext
  show sAg E ag ρ A (wE (evR ρ f) fun fv => wEs ρ args.toList fun args => wApp E X0 fv args A fun v A' => sPut ρ d v fun ρ' => rR E X0 w A0 ag lr k ds ρ' A') ↔ _
  rw [rr_nil.sAg_and]
  simp only [sPut_updO]
  refine and_congr Iff.rfl ⟨fun h => ?_, ?_⟩
  · obtain ⟨fv, hf, h⟩ := wE_of h
    obtain ⟨vs, hv, h⟩ := wEs_of h
    exact ⟨fv, vs, hf, hv, h⟩
  · rintro ⟨fv, vs, hf, hv, h⟩
    rw [hf]
    exact o_call.wEs_intro hv h
theorem ag_nil : agOk E [] ρ A = True := propext Iff.rfl
theorem ag_cons {g t op} : agOk E (⟨g, some t, op⟩ :: ag) ρ A = ((∃ A', aop E (mkO op) (evR ρ) A = some (ρ t, A')) ∧ agOk E ag ρ A) := by
  apply propext
  show (wOp E (mkO op) ρ A fun v _ => v = ρ t ∧ sAg E ag ρ A True) ↔ _
  rw [wOp_iff]
  constructor
  · rintro ⟨v, A', h1, rfl, h3⟩; exact ⟨⟨A', h1⟩, h3⟩
  · rintro ⟨⟨A', h1⟩, h3⟩; exact ⟨_, A', h1, rfl, h3⟩
theorem gR_some {v A'} : gR E X0 w (some (v, A')) d A0 ag lr k ds ρ = rR E X0 w A0 ag lr k ds (updO ρ d v) A' := by
  apply propext; constructor
  · rintro ⟨_, _, e, h⟩; cases e; exact h
  · exact fun h => ⟨_, _, rfl, h⟩
theorem gR5_some {v A'} : gR5 E X0 w (some (v, A')) d A0 ag lr k ds ρ A = rR E X0 w A0 ag lr k ds (updO ρ d v) A := by
  apply propext; constructor
  · rintro ⟨_, _, e, h⟩; cases e; exact h
  · exact fun h => ⟨_, _, rfl, h⟩
theorem gRC_fn {f first cap args} (h : wCall E X0 f (first.toList ++ args ++ cap.toList) A fun v A' => rR E X0 w A0 ag lr k ds (updO ρ d v) A') : gRC E X0 w (some (.func (.func f) first cap)) (some args) d A0 ag lr k ds ρ A :=
  ⟨_, _, rfl, rfl, wApp_fn h⟩
theorem gRC_call {f args} (h : wCall E X0 f args A fun v A' => rR E X0 w A0 ag lr k ds (updO ρ d v) A') : gRC E X0 w (some (.func (.func f) #[] #[])) (some args) d A0 ag lr k ds ρ A :=
  gRC_fn (by simpa using h)
theorem gRQ_fn {f first cap args} (h : wCall E X0 f (first.toList ++ args ++ cap.toList) A fun v A' => (∀ j, j < A.next → A'.obj j = A.obj j) ∧ rR E X0 w A0 ag lr k ds (updO ρ d v) A') : gRQ E X0 w (some (.func (.func f) first cap)) (some args) d A0 ag lr k ds ρ A := by
  obtain ⟨v, A', hb, hl, hs, hk⟩ := wApp_fn h
  exact ⟨_, _, rfl, rfl, v, A', hb, hl, hs, hk⟩
theorem gRQ_call {f args} (h : wCall E X0 f args A fun v A' => (∀ j, j < A.next → A'.obj j = A.obj j) ∧ rR E X0 w A0 ag lr k ds (updO ρ d v) A') : gRQ E X0 w (some (.func (.func f) #[] #[])) (some args) d A0 ag lr k ds ρ A :=
  gRQ_fn (by simpa using h)
theorem gRG_tt {g op} : gRG E X0 w (.bool true) true g d op A0 ag lr k ds ρ A = rR E X0 w A0 ag ((g, ⟨.always, d, op⟩) :: lr) k ds ρ A := wG_tt
theorem gRG_tf {g op} : gRG E X0 w (.bool true) false g d op A0 ag lr k ds ρ A = rR E X0 w A0 ag lr k ds (updO ρ d undef) A := wG_tf
theorem gRG_ft {g op} : gRG E X0 w (.bool false) true g d op A0 ag lr k ds ρ A = rR E X0 w A0 ag lr k ds (updO ρ d undef) A := wG_ft
theorem gRG_ff {g op} : gRG E X0 w (.bool false) false g d op A0 ag lr k ds ρ A = rR E X0 w A0 ag ((g, ⟨.always, d, op⟩) :: lr) k ds ρ A := wG_ff
/-! ### Results -/
def resR (E : Env P) (ρ : Rho) (A : AHeap) : List ResultVar → Option (List Value)
  | [] => some []
  | .tmp t :: r => bl (resR E ρ A r) fun l => some (ρ t :: l)
  | .cell a ty :: r => b1 (aLoad E ty (ρ a) A) fun v => bl (resR E ρ A r) fun l => some (v :: l)
def gF (K : Value → AHeap → Prop) (e : Option (List Value)) (A : AHeap) : Prop := ∃ l, e = some l ∧ K (oneOf l) A
theorem res_of {rs : List ResultVar} {K : List Value → Prop} : wRes E rs ρ A K ↔ ∃ l, resR E ρ A rs = some l ∧ K l := by
  induction rs generalizing K with
  | nil => exact ⟨fun h => ⟨[], rfl, h⟩, fun ⟨l, e, h⟩ => by cases e; exact h⟩
  | cons r rs ih =>
    cases r with
    | tmp t =>
      show wRes E rs ρ A (fun l => K (ρ t :: l)) ↔ _
      rw [ih]
      simp only [resR]
      constructor
      · rintro ⟨l, e, h⟩; exact ⟨_, by rw [e]; rfl, h⟩
      · rintro ⟨l, e, h⟩
        cases hr : resR E ρ A rs with
        | none => rw [hr] at e; cases e
        | some l' => rw [hr] at e; cases e; exact ⟨l', rfl, h⟩
    | cell a ty =>
      show wO (aLoad E ty (ρ a) A) (fun v => wRes E rs ρ A (fun l => K (v :: l))) ↔ _
      simp only [wO, ih, resR]
      constructor
      · rintro ⟨v, e, l, e', h⟩; exact ⟨_, by rw [e, e']; rfl, h⟩
      · rintro ⟨l, e, h⟩
        cases hv : aLoad E ty (ρ a) A with
        | none => rw [hv] at e; cases e
        | some v =>
          rw [hv] at e
          cases hr : resR E ρ A rs with
          | none => rw [hr] at e; cases e
          | some l' => rw [hr] at e; cases e; exact ⟨v, rfl, l', rfl, h⟩
theorem f_ret {rs} {K : Value → AHeap → Prop} {K' : KTP} : rX E X0 w .ret (.top K' (wEnd E X0 rs K)) ds ρ A = wFin E X0 rs K ds ρ A := propext Iff.rfl
theorem e_ret {rs} {K : Value → AHeap → Prop} : wEnd E X0 rs K .ret ds ρ A = wFin E X0 rs K ds ρ A := propext Iff.rfl
theorem f_nil {rs} {K : Value → AHeap → Prop} : wFin E X0 rs K [] ρ A = gF K (resR E ρ A rs) A := by
  apply propext
  show wRes E rs ρ A (fun l => K (oneOf l) A) ↔ _
  rw [res_of]; exact Iff.rfl
theorem gF_some {K : Value → AHeap → Prop} {l : List Value} : gF K (some l) A = K (oneOf l) A := by
  apply propext; constructor
  · rintro ⟨_, e, h⟩; cases e; exact h
  · exact fun h => ⟨_, rfl, h⟩
theorem res_nil' : resR E ρ A [] = some [] := rfl
theorem res_tmp' {t rs} : resR E ρ A (.tmp t :: rs) = bl (resR E ρ A rs) fun l => some (ρ t :: l) := rfl
theorem res_cell' {a ty rs} : resR E ρ A (.cell a ty :: rs) = b1 (aLoad E ty (ρ a) A) fun v => bl (resR E ρ A rs) fun l => some (v :: l) := rfl
theorem one1 {v : Value} : oneOf [v] = v := rfl
theorem one0 : oneOf [] = .tuple #[] := rfl
theorem one2 {a b : Value} : oneOf [a, b] = .tuple #[a, b] := rfl
theorem one3 {a b c : Value} : oneOf [a, b, c] = .tuple #[a, b, c] := rfl

/-- THE CALL OF A FUNCTION. -/
theorem wCall_R {hm : FuncId → Nat → Option Nat} {f : FuncId} {fn : Func} {args : List Value} {K : Value → AHeap → Prop} {c : SC} {n : Nat} {rs : List ResultVar} (hf : E.fns f = some fn)
    (hs : fn.body.map (slim E hm f n) = some c) (hn : args.length + (fn.ntmps - args.length) = n) (hr : fn.results.toList = rs) (hw : WF A)
    (h : rC E X0 ⟨f, none, n⟩ c (.top (wFin E X0 rs K) (wEnd E X0 rs K)) [] (rhoL args) A) : wCall E X0 f args A K :=
  wCall_S hf hs hn hr h hw
theorem o_move {x} : rO E X0 w (⟨.always, d, .move x⟩ :: l) k ds ρ A = gO E X0 w (aop E (mkO (.move x)) (evR ρ) A) d l k ds ρ := o_gen rfl
theorem r0_move {x} : rR E X0 w A0 ag ((0, ⟨.always, d, .move x⟩) :: lr) k ds ρ A = gR E X0 w (aop E (mkO (.move x)) (evR ρ) A) d A0 ag lr k ds ρ := rr_0 rfl
theorem r1_move {x} : rR E X0 w A0 ag ((1, ⟨.always, d, .move x⟩) :: lr) k ds ρ A = gR E X0 w (aop E (mkO (.move x)) (evR ρ) A) d A0 ag lr k ds ρ := rr_1 rfl
theorem r2_move {x} : rR E X0 w A0 ag ((2, ⟨.always, d, .move x⟩) :: lr) k ds ρ A = gR E X0 w (aop E (mkO (.move x)) (evR ρ) A) d A0 ag lr k ds ρ := rr_2 rfl
theorem r4_move {x} : rR E X0 w A0 ag ((4, ⟨.always, d, .move x⟩) :: lr) k ds ρ A = (agOk E ag ρ A ∧ gR E X0 w (aop E (mkO (.move x)) (evR ρ) A) d A0 ag lr k ds ρ) := rr_4 rfl
theorem o_assign {x} : rO E X0 w (⟨.always, d, .assign x⟩ :: l) k ds ρ A = gO E X0 w (aop E (mkO (.assign x)) (evR ρ) A) d l k ds ρ := o_gen rfl
theorem r0_assign {x} : rR E X0 w A0 ag ((0, ⟨.always, d, .assign x⟩) :: lr) k ds ρ A = gR E X0 w (aop E (mkO (.assign x)) (evR ρ) A) d A0 ag lr k ds ρ := rr_0 rfl
theorem r1_assign {x} : rR E X0 w A0 ag ((1, ⟨.always, d, .assign x⟩) :: lr) k ds ρ A = gR E X0 w (aop E (mkO (.assign x)) (evR ρ) A) d A0 ag lr k ds ρ := rr_1 rfl
theorem r2_assign {x} : rR E X0 w A0 ag ((2, ⟨.always, d, .assign x⟩) :: lr) k ds ρ A = gR E X0 w (aop E (mkO (.assign x)) (evR ρ) A) d A0 ag lr k ds ρ := rr_2 rfl
theorem r4_assign {x} : rR E X0 w A0 ag ((4, ⟨.always, d, .assign x⟩) :: lr) k ds ρ A = (agOk E ag ρ A ∧ gR E X0 w (aop E (mkO (.assign x)) (evR ρ) A) d A0 ag lr k ds ρ) := rr_4 rfl
theorem o_pick {c a b} : rO E X0 w (⟨.always, d, .pick c a b⟩ :: l) k ds ρ A = gO E X0 w (aop E (mkO (.pick c a b)) (evR ρ) A) d l k ds ρ := o_gen rfl
theorem r0_pick {c a b} : rR E X0 w A0 ag ((0, ⟨.always, d, .pick c a b⟩) :: lr) k ds ρ A = gR E X0 w (aop E (mkO (.pick c a b)) (evR ρ) A) d A0 ag lr k ds ρ := rr_0 rfl
theorem r1_pick {c a b} : rR E X0 w A0 ag ((1, ⟨.always, d, .pick c a b⟩) :: lr) k ds ρ A = gR E X0 w (aop E (mkO (.pick c a b)) (evR ρ) A) d A0 ag lr k ds ρ := rr_1 rfl
theorem r2_pick {c a b} : rR E X0 w A0 ag ((2, ⟨.always, d, .pick c a b⟩) :: lr) k ds ρ A = gR E X0 w (aop E (mkO (.pick c a b)) (evR ρ) A) d A0 ag lr k ds ρ := rr_2 rfl
theorem r4_pick {c a b} : rR E X0 w A0 ag ((4, ⟨.always, d, .pick c a b⟩) :: lr) k ds ρ A = (agOk E ag ρ A ∧ gR E X0 w (aop E (mkO (.pick c a b)) (evR ρ) A) d A0 ag lr k ds ρ) := rr_4 rfl
theorem o_alloc {t} : rO E X0 w (⟨.always, d, .alloc t⟩ :: l) k ds ρ A = gO E X0 w (aop E (mkO (.alloc t)) (evR ρ) A) d l k ds ρ := o_gen rfl
theorem r0_alloc {t} : rR E X0 w A0 ag ((0, ⟨.always, d, .alloc t⟩) :: lr) k ds ρ A = gR E X0 w (aop E (mkO (.alloc t)) (evR ρ) A) d A0 ag lr k ds ρ := rr_0 rfl
theorem r1_alloc {t} : rR E X0 w A0 ag ((1, ⟨.always, d, .alloc t⟩) :: lr) k ds ρ A = gR E X0 w (aop E (mkO (.alloc t)) (evR ρ) A) d A0 ag lr k ds ρ := rr_1 rfl
theorem r2_alloc {t} : rR E X0 w A0 ag ((2, ⟨.always, d, .alloc t⟩) :: lr) k ds ρ A = gR E X0 w (aop E (mkO (.alloc t)) (evR ρ) A) d A0 ag lr k ds ρ := rr_2 rfl
theorem r4_alloc {t} : rR E X0 w A0 ag ((4, ⟨.always, d, .alloc t⟩) :: lr) k ds ρ A = (agOk E ag ρ A ∧ gR E X0 w (aop E (mkO (.alloc t)) (evR ρ) A) d A0 ag lr k ds ρ) := rr_4 rfl
theorem o_box {t x} : rO E X0 w (⟨.always, d, .box t x⟩ :: l) k ds ρ A = gO E X0 w (aop E (mkO (.box t x)) (evR ρ) A) d l k ds ρ := o_gen rfl
theorem r0_box {t x} : rR E X0 w A0 ag ((0, ⟨.always, d, .box t x⟩) :: lr) k ds ρ A = gR E X0 w (aop E (mkO (.box t x)) (evR ρ) A) d A0 ag lr k ds ρ := rr_0 rfl
theorem r1_box {t x} : rR E X0 w A0 ag ((1, ⟨.always, d, .box t x⟩) :: lr) k ds ρ A = gR E X0 w (aop E (mkO (.box t x)) (evR ρ) A) d A0 ag lr k ds ρ := rr_1 rfl
theorem r2_box {t x} : rR E X0 w A0 ag ((2, ⟨.always, d, .box t x⟩) :: lr) k ds ρ A = gR E X0 w (aop E (mkO (.box t x)) (evR ρ) A) d A0 ag lr k ds ρ := rr_2 rfl
theorem r4_box {t x} : rR E X0 w A0 ag ((4, ⟨.always, d, .box t x⟩) :: lr) k ds ρ A = (agOk E ag ρ A ∧ gR E X0 w (aop E (mkO (.box t x)) (evR ρ) A) d A0 ag lr k ds ρ) := rr_4 rfl
theorem o_build {t ps} : rO E X0 w (⟨.always, d, .build t ps⟩ :: l) k ds ρ A = gO E X0 w (aop E (mkO (.build t ps)) (evR ρ) A) d l k ds ρ := o_gen rfl
theorem r0_build {t ps} : rR E X0 w A0 ag ((0, ⟨.always, d, .build t ps⟩) :: lr) k ds ρ A = gR E X0 w (aop E (mkO (.build t ps)) (evR ρ) A) d A0 ag lr k ds ρ := rr_0 rfl
theorem r1_build {t ps} : rR E X0 w A0 ag ((1, ⟨.always, d, .build t ps⟩) :: lr) k ds ρ A = gR E X0 w (aop E (mkO (.build t ps)) (evR ρ) A) d A0 ag lr k ds ρ := rr_1 rfl
theorem r2_build {t ps} : rR E X0 w A0 ag ((2, ⟨.always, d, .build t ps⟩) :: lr) k ds ρ A = gR E X0 w (aop E (mkO (.build t ps)) (evR ρ) A) d A0 ag lr k ds ρ := rr_2 rfl
theorem r4_build {t ps} : rR E X0 w A0 ag ((4, ⟨.always, d, .build t ps⟩) :: lr) k ds ρ A = (agOk E ag ρ A ∧ gR E X0 w (aop E (mkO (.build t ps)) (evR ρ) A) d A0 ag lr k ds ρ) := rr_4 rfl
theorem o_buildSlice {t n ps} : rO E X0 w (⟨.always, d, .buildSlice t n ps⟩ :: l) k ds ρ A = gO E X0 w (aop E (mkO (.buildSlice t n ps)) (evR ρ) A) d l k ds ρ := o_gen rfl
theorem r0_buildSlice {t n ps} : rR E X0 w A0 ag ((0, ⟨.always, d, .buildSlice t n ps⟩) :: lr) k ds ρ A = gR E X0 w (aop E (mkO (.buildSlice t n ps)) (evR ρ) A) d A0 ag lr k ds ρ := rr_0 rfl
theorem r1_buildSlice {t n ps} : rR E X0 w A0 ag ((1, ⟨.always, d, .buildSlice t n ps⟩) :: lr) k ds ρ A = gR E X0 w (aop E (mkO (.buildSlice t n ps)) (evR ρ) A) d A0 ag lr k ds ρ := rr_1 rfl
theorem r2_buildSlice {t n ps} : rR E X0 w A0 ag ((2, ⟨.always, d, .buildSlice t n ps⟩) :: lr) k ds ρ A = gR E X0 w (aop E (mkO (.buildSlice t n ps)) (evR ρ) A) d A0 ag lr k ds ρ := rr_2 rfl
theorem r4_buildSlice {t n ps} : rR E X0 w A0 ag ((4, ⟨.always, d, .buildSlice t n ps⟩) :: lr) k ds ρ A = (agOk E ag ρ A ∧ gR E X0 w (aop E (mkO (.buildSlice t n ps)) (evR ρ) A) d A0 ag lr k ds ρ) := rr_4 rfl
theorem o_load {t x} : rO E X0 w (⟨.always, d, .load t x⟩ :: l) k ds ρ A = gO E X0 w (aop E (mkO (.load t x)) (evR ρ) A) d l k ds ρ := o_gen rfl
theorem r0_load {t x} : rR E X0 w A0 ag ((0, ⟨.always, d, .load t x⟩) :: lr) k ds ρ A = gR E X0 w (aop E (mkO (.load t x)) (evR ρ) A) d A0 ag lr k ds ρ := rr_0 rfl
theorem r1_load {t x} : rR E X0 w A0 ag ((1, ⟨.always, d, .load t x⟩) :: lr) k ds ρ A = gR E X0 w (aop E (mkO (.load t x)) (evR ρ) A) d A0 ag lr k ds ρ := rr_1 rfl
theorem r2_load {t x} : rR E X0 w A0 ag ((2, ⟨.always, d, .load t x⟩) :: lr) k ds ρ A = gR E X0 w (aop E (mkO (.load t x)) (evR ρ) A) d A0 ag lr k ds ρ := rr_2 rfl
theorem r4_load {t x} : rR E X0 w A0 ag ((4, ⟨.always, d, .load t x⟩) :: lr) k ds ρ A = (agOk E ag ρ A ∧ gR E X0 w (aop E (mkO (.load t x)) (evR ρ) A) d A0 ag lr k ds ρ) := rr_4 rfl
theorem o_store {t x y} : rO E X0 w (⟨.always, d, .store t x y⟩ :: l) k ds ρ A = gO E X0 w (aop E (mkO (.store t x y)) (evR ρ) A) d l k ds ρ := o_gen rfl
theorem r0_store {t x y} : rR E X0 w A0 ag ((0, ⟨.always, d, .store t x y⟩) :: lr) k ds ρ A = gR E X0 w (aop E (mkO (.store t x y)) (evR ρ) A) d A0 ag lr k ds ρ := rr_0 rfl
theorem r1_store {t x y} : rR E X0 w A0 ag ((1, ⟨.always, d, .store t x y⟩) :: lr) k ds ρ A = gR E X0 w (aop E (mkO (.store t x y)) (evR ρ) A) d A0 ag lr k ds ρ := rr_1 rfl
theorem r2_store {t x y} : rR E X0 w A0 ag ((2, ⟨.always, d, .store t x y⟩) :: lr) k ds ρ A = gR E X0 w (aop E (mkO (.store t x y)) (evR ρ) A) d A0 ag lr k ds ρ := rr_2 rfl
theorem r4_store {t x y} : rR E X0 w A0 ag ((4, ⟨.always, d, .store t x y⟩) :: lr) k ds ρ A = (agOk E ag ρ A ∧ gR E X0 w (aop E (mkO (.store t x y)) (evR ρ) A) d A0 ag lr k ds ρ) := rr_4 rfl
theorem o_nilCheck {x} : rO E X0 w (⟨.always, d, .nilCheck x⟩ :: l) k ds ρ A = gO E X0 w (aop E (mkO (.nilCheck x)) (evR ρ) A) d l k ds ρ := o_gen rfl
theorem r0_nilCheck {x} : rR E X0 w A0 ag ((0, ⟨.always, d, .nilCheck x⟩) :: lr) k ds ρ A = gR E X0 w (aop E (mkO (.nilCheck x)) (evR ρ) A) d A0 ag lr k ds ρ := rr_0 rfl
theorem r1_nilCheck {x} : rR E X0 w A0 ag ((1, ⟨.always, d, .nilCheck x⟩) :: lr) k ds ρ A = gR E X0 w (aop E (mkO (.nilCheck x)) (evR ρ) A) d A0 ag lr k ds ρ := rr_1 rfl
theorem r2_nilCheck {x} : rR E X0 w A0 ag ((2, ⟨.always, d, .nilCheck x⟩) :: lr) k ds ρ A = gR E X0 w (aop E (mkO (.nilCheck x)) (evR ρ) A) d A0 ag lr k ds ρ := rr_2 rfl
theorem r4_nilCheck {x} : rR E X0 w A0 ag ((4, ⟨.always, d, .nilCheck x⟩) :: lr) k ds ρ A = (agOk E ag ρ A ∧ gR E X0 w (aop E (mkO (.nilCheck x)) (evR ρ) A) d A0 ag lr k ds ρ) := rr_4 rfl
theorem o_binOp {op t x y u} : rO E X0 w (⟨.always, d, .binOp op t x y u⟩ :: l) k ds ρ A = gO E X0 w (aop E (mkO (.binOp op t x y u)) (evR ρ) A) d l k ds ρ := o_gen rfl
theorem r0_binOp {op t x y u} : rR E X0 w A0 ag ((0, ⟨.always, d, .binOp op t x y u⟩) :: lr) k ds ρ A = gR E X0 w (aop E (mkO (.binOp op t x y u)) (evR ρ) A) d A0 ag lr k ds ρ := rr_0 rfl
theorem r1_binOp {op t x y u} : rR E X0 w A0 ag ((1, ⟨.always, d, .binOp op t x y u⟩) :: lr) k ds ρ A = gR E X0 w (aop E (mkO (.binOp op t x y u)) (evR ρ) A) d A0 ag lr k ds ρ := rr_1 rfl
theorem r2_binOp {op t x y u} : rR E X0 w A0 ag ((2, ⟨.always, d, .binOp op t x y u⟩) :: lr) k ds ρ A = gR E X0 w (aop E (mkO (.binOp op t x y u)) (evR ρ) A) d A0 ag lr k ds ρ := rr_2 rfl
theorem r4_binOp {op t x y u} : rR E X0 w A0 ag ((4, ⟨.always, d, .binOp op t x y u⟩) :: lr) k ds ρ A = (agOk E ag ρ A ∧ gR E X0 w (aop E (mkO (.binOp op t x y u)) (evR ρ) A) d A0 ag lr k ds ρ) := rr_4 rfl
theorem o_unOp {op t x} : rO E X0 w (⟨.always, d, .unOp op t x⟩ :: l) k ds ρ A = gO E X0 w (aop E (mkO (.unOp op t x)) (evR ρ) A) d l k ds ρ := o_gen rfl
theorem r0_unOp {op t x} : rR E X0 w A0 ag ((0, ⟨.always, d, .unOp op t x⟩) :: lr) k ds ρ A = gR E X0 w (aop E (mkO (.unOp op t x)) (evR ρ) A) d A0 ag lr k ds ρ := rr_0 rfl
theorem r1_unOp {op t x} : rR E X0 w A0 ag ((1, ⟨.always, d, .unOp op t x⟩) :: lr) k ds ρ A = gR E X0 w (aop E (mkO (.unOp op t x)) (evR ρ) A) d A0 ag lr k ds ρ := rr_1 rfl
theorem r2_unOp {op t x} : rR E X0 w A0 ag ((2, ⟨.always, d, .unOp op t x⟩) :: lr) k ds ρ A = gR E X0 w (aop E (mkO (.unOp op t x)) (evR ρ) A) d A0 ag lr k ds ρ := rr_2 rfl
theorem r4_unOp {op t x} : rR E X0 w A0 ag ((4, ⟨.always, d, .unOp op t x⟩) :: lr) k ds ρ A = (agOk E ag ρ A ∧ gR E X0 w (aop E (mkO (.unOp op t x)) (evR ρ) A) d A0 ag lr k ds ρ) := rr_4 rfl
theorem o_convert {s t x} : rO E X0 w (⟨.always, d, .convert s t x⟩ :: l) k ds ρ A = gO E X0 w (aop E (mkO (.convert s t x)) (evR ρ) A) d l k ds ρ := o_gen rfl
theorem r0_convert {s t x} : rR E X0 w A0 ag ((0, ⟨.always, d, .convert s t x⟩) :: lr) k ds ρ A = gR E X0 w (aop E (mkO (.convert s t x)) (evR ρ) A) d A0 ag lr k ds ρ := rr_0 rfl
theorem r1_convert {s t x} : rR E X0 w A0 ag ((1, ⟨.always, d, .convert s t x⟩) :: lr) k ds ρ A = gR E X0 w (aop E (mkO (.convert s t x)) (evR ρ) A) d A0 ag lr k ds ρ := rr_1 rfl
theorem r2_convert {s t x} : rR E X0 w A0 ag ((2, ⟨.always, d, .convert s t x⟩) :: lr) k ds ρ A = gR E X0 w (aop E (mkO (.convert s t x)) (evR ρ) A) d A0 ag lr k ds ρ := rr_2 rfl
theorem r4_convert {s t x} : rR E X0 w A0 ag ((4, ⟨.always, d, .convert s t x⟩) :: lr) k ds ρ A = (agOk E ag ρ A ∧ gR E X0 w (aop E (mkO (.convert s t x)) (evR ρ) A) d A0 ag lr k ds ρ) := rr_4 rfl
theorem o_makeFunc {f a c} : rO E X0 w (⟨.always, d, .makeFunc (.func f) a c⟩ :: l) k ds ρ A = gO E X0 w (aop E (mkO (.makeFunc (.func f) a c)) (evR ρ) A) d l k ds ρ := o_gen rfl
theorem r0_makeFunc {f a c} : rR E X0 w A0 ag ((0, ⟨.always, d, .makeFunc (.func f) a c⟩) :: lr) k ds ρ A = gR E X0 w (aop E (mkO (.makeFunc (.func f) a c)) (evR ρ) A) d A0 ag lr k ds ρ := rr_0 rfl
theorem r1_makeFunc {f a c} : rR E X0 w A0 ag ((1, ⟨.always, d, .makeFunc (.func f) a c⟩) :: lr) k ds ρ A = gR E X0 w (aop E (mkO (.makeFunc (.func f) a c)) (evR ρ) A) d A0 ag lr k ds ρ := rr_1 rfl
theorem r2_makeFunc {f a c} : rR E X0 w A0 ag ((2, ⟨.always, d, .makeFunc (.func f) a c⟩) :: lr) k ds ρ A = gR E X0 w (aop E (mkO (.makeFunc (.func f) a c)) (evR ρ) A) d A0 ag lr k ds ρ := rr_2 rfl
theorem r4_makeFunc {f a c} : rR E X0 w A0 ag ((4, ⟨.always, d, .makeFunc (.func f) a c⟩) :: lr) k ds ρ A = (agOk E ag ρ A ∧ gR E X0 w (aop E (mkO (.makeFunc (.func f) a c)) (evR ρ) A) d A0 ag lr k ds ρ) := rr_4 rfl
theorem o_makeMap {t} : rO E X0 w (⟨.always, d, .makeMap t none⟩ :: l) k ds ρ A = gO E X0 w (aop E (mkO (.makeMap t none)) (evR ρ) A) d l k ds ρ := o_gen rfl
theorem r0_makeMap {t} : rR E X0 w A0 ag ((0, ⟨.always, d, .makeMap t none⟩) :: lr) k ds ρ A = gR E X0 w (aop E (mkO (.makeMap t none)) (evR ρ) A) d A0 ag lr k ds ρ := rr_0 rfl
theorem r1_makeMap {t} : rR E X0 w A0 ag ((1, ⟨.always, d, .makeMap t none⟩) :: lr) k ds ρ A = gR E X0 w (aop E (mkO (.makeMap t none)) (evR ρ) A) d A0 ag lr k ds ρ := rr_1 rfl
theorem r2_makeMap {t} : rR E X0 w A0 ag ((2, ⟨.always, d, .makeMap t none⟩) :: lr) k ds ρ A = gR E X0 w (aop E (mkO (.makeMap t none)) (evR ρ) A) d A0 ag lr k ds ρ := rr_2 rfl
theorem r4_makeMap {t} : rR E X0 w A0 ag ((4, ⟨.always, d, .makeMap t none⟩) :: lr) k ds ρ A = (agOk E ag ρ A ∧ gR E X0 w (aop E (mkO (.makeMap t none)) (evR ρ) A) d A0 ag lr k ds ρ) := rr_4 rfl
theorem o_makeSlice {t x z} : rO E X0 w (⟨.always, d, .makeSlice t x z⟩ :: l) k ds ρ A = gO E X0 w (aop E (mkO (.makeSlice t x z)) (evR ρ) A) d l k ds ρ := o_gen rfl
theorem r0_makeSlice {t x z} : rR E X0 w A0 ag ((0, ⟨.always, d, .makeSlice t x z⟩) :: lr) k ds ρ A = gR E X0 w (aop E (mkO (.makeSlice t x z)) (evR ρ) A) d A0 ag lr k ds ρ := rr_0 rfl
theorem r1_makeSlice {t x z} : rR E X0 w A0 ag ((1, ⟨.always, d, .makeSlice t x z⟩) :: lr) k ds ρ A = gR E X0 w (aop E (mkO (.makeSlice t x z)) (evR ρ) A) d A0 ag lr k ds ρ := rr_1 rfl
theorem r2_makeSlice {t x z} : rR E X0 w A0 ag ((2, ⟨.always, d, .makeSlice t x z⟩) :: lr) k ds ρ A = gR E X0 w (aop E (mkO (.makeSlice t x z)) (evR ρ) A) d A0 ag lr k ds ρ := rr_2 rfl
theorem r4_makeSlice {t x z} : rR E X0 w A0 ag ((4, ⟨.always, d, .makeSlice t x z⟩) :: lr) k ds ρ A = (agOk E ag ρ A ∧ gR E X0 w (aop E (mkO (.makeSlice t x z)) (evR ρ) A) d A0 ag lr k ds ρ) := rr_4 rfl
theorem o_slice {t x lo hi mx} : rO E X0 w (⟨.always, d, .slice t x lo hi mx⟩ :: l) k ds ρ A = gO E X0 w (aop E (mkO (.slice t x lo hi mx)) (evR ρ) A) d l k ds ρ := o_gen rfl
theorem r0_slice {t x lo hi mx} : rR E X0 w A0 ag ((0, ⟨.always, d, .slice t x lo hi mx⟩) :: lr) k ds ρ A = gR E X0 w (aop E (mkO (.slice t x lo hi mx)) (evR ρ) A) d A0 ag lr k ds ρ := rr_0 rfl
theorem r1_slice {t x lo hi mx} : rR E X0 w A0 ag ((1, ⟨.always, d, .slice t x lo hi mx⟩) :: lr) k ds ρ A = gR E X0 w (aop E (mkO (.slice t x lo hi mx)) (evR ρ) A) d A0 ag lr k ds ρ := rr_1 rfl
theorem r2_slice {t x lo hi mx} : rR E X0 w A0 ag ((2, ⟨.always, d, .slice t x lo hi mx⟩) :: lr) k ds ρ A = gR E X0 w (aop E (mkO (.slice t x lo hi mx)) (evR ρ) A) d A0 ag lr k ds ρ := rr_2 rfl
theorem r4_slice {t x lo hi mx} : rR E X0 w A0 ag ((4, ⟨.always, d, .slice t x lo hi mx⟩) :: lr) k ds ρ A = (agOk E ag ρ A ∧ gR E X0 w (aop E (mkO (.slice t x lo hi mx)) (evR ρ) A) d A0 ag lr k ds ρ) := rr_4 rfl
theorem o_fieldAddr {t x f} : rO E X0 w (⟨.always, d, .fieldAddr t x f⟩ :: l) k ds ρ A = gO E X0 w (aop E (mkO (.fieldAddr t x f)) (evR ρ) A) d l k ds ρ := o_gen rfl
theorem r0_fieldAddr {t x f} : rR E X0 w A0 ag ((0, ⟨.always, d, .fieldAddr t x f⟩) :: lr) k ds ρ A = gR E X0 w (aop E (mkO (.fieldAddr t x f)) (evR ρ) A) d A0 ag lr k ds ρ := rr_0 rfl
theorem r1_fieldAddr {t x f} : rR E X0 w A0 ag ((1, ⟨.always, d, .fieldAddr t x f⟩) :: lr) k ds ρ A = gR E X0 w (aop E (mkO (.fieldAddr t x f)) (evR ρ) A) d A0 ag lr k ds ρ := rr_1 rfl
theorem r2_fieldAddr {t x f} : rR E X0 w A0 ag ((2, ⟨.always, d, .fieldAddr t x f⟩) :: lr) k ds ρ A = gR E X0 w (aop E (mkO (.fieldAddr t x f)) (evR ρ) A) d A0 ag lr k ds ρ := rr_2 rfl
theorem r4_fieldAddr {t x f} : rR E X0 w A0 ag ((4, ⟨.always, d, .fieldAddr t x f⟩) :: lr) k ds ρ A = (agOk E ag ρ A ∧ gR E X0 w (aop E (mkO (.fieldAddr t x f)) (evR ρ) A) d A0 ag lr k ds ρ) := rr_4 rfl
theorem o_field {t x f} : rO E X0 w (⟨.always, d, .field t x f⟩ :: l) k ds ρ A = gO E X0 w (aop E (mkO (.field t x f)) (evR ρ) A) d l k ds ρ := o_gen rfl
theorem r0_field {t x f} : rR E X0 w A0 ag ((0, ⟨.always, d, .field t x f⟩) :: lr) k ds ρ A = gR E X0 w (aop E (mkO (.field t x f)) (evR ρ) A) d A0 ag lr k ds ρ := rr_0 rfl
theorem r1_field {t x f} : rR E X0 w A0 ag ((1, ⟨.always, d, .field t x f⟩) :: lr) k ds ρ A = gR E X0 w (aop E (mkO (.field t x f)) (evR ρ) A) d A0 ag lr k ds ρ := rr_1 rfl
theorem r2_field {t x f} : rR E X0 w A0 ag ((2, ⟨.always, d, .field t x f⟩) :: lr) k ds ρ A = gR E X0 w (aop E (mkO (.field t x f)) (evR ρ) A) d A0 ag lr k ds ρ := rr_2 rfl
theorem r4_field {t x f} : rR E X0 w A0 ag ((4, ⟨.always, d, .field t x f⟩) :: lr) k ds ρ A = (agOk E ag ρ A ∧ gR E X0 w (aop E (mkO (.field t x f)) (evR ρ) A) d A0 ag lr k ds ρ) := rr_4 rfl
theorem o_indexAddr {t x y} : rO E X0 w (⟨.always, d, .indexAddr t x y⟩ :: l) k ds ρ A = gO E X0 w (aop E (mkO (.indexAddr t x y)) (evR ρ) A) d l k ds ρ := o_gen rfl
theorem r0_indexAddr {t x y} : rR E X0 w A0 ag ((0, ⟨.always, d, .indexAddr t x y⟩) :: lr) k ds ρ A = gR E X0 w (aop E (mkO (.indexAddr t x y)) (evR ρ) A) d A0 ag lr k ds ρ := rr_0 rfl
theorem r1_indexAddr {t x y} : rR E X0 w A0 ag ((1, ⟨.always, d, .indexAddr t x y⟩) :: lr) k ds ρ A = gR E X0 w (aop E (mkO (.indexAddr t x y)) (evR ρ) A) d A0 ag lr k ds ρ := rr_1 rfl
theorem r2_indexAddr {t x y} : rR E X0 w A0 ag ((2, ⟨.always, d, .indexAddr t x y⟩) :: lr) k ds ρ A = gR E X0 w (aop E (mkO (.indexAddr t x y)) (evR ρ) A) d A0 ag lr k ds ρ := rr_2 rfl
theorem r4_indexAddr {t x y} : rR E X0 w A0 ag ((4, ⟨.always, d, .indexAddr t x y⟩) :: lr) k ds ρ A = (agOk E ag ρ A ∧ gR E X0 w (aop E (mkO (.indexAddr t x y)) (evR ρ) A) d A0 ag lr k ds ρ) := rr_4 rfl
theorem o_index {t x y} : rO E X0 w (⟨.always, d, .index t x y⟩ :: l) k ds ρ A = gO E X0 w (aop E (mkO (.index t x y)) (evR ρ) A) d l k ds ρ := o_gen rfl
theorem r0_index {t x y} : rR E X0 w A0 ag ((0, ⟨.always, d, .index t x y⟩) :: lr) k ds ρ A = gR E X0 w (aop E (mkO (.index t x y)) (evR ρ) A) d A0 ag lr k ds ρ := rr_0 rfl
theorem r1_index {t x y} : rR E X0 w A0 ag ((1, ⟨.always, d, .index t x y⟩) :: lr) k ds ρ A = gR E X0 w (aop E (mkO (.index t x y)) (evR ρ) A) d A0 ag lr k ds ρ := rr_1 rfl
theorem r2_index {t x y} : rR E X0 w A0 ag ((2, ⟨.always, d, .index t x y⟩) :: lr) k ds ρ A = gR E X0 w (aop E (mkO (.index t x y)) (evR ρ) A) d A0 ag lr k ds ρ := rr_2 rfl
theorem r4_index {t x y} : rR E X0 w A0 ag ((4, ⟨.always, d, .index t x y⟩) :: lr) k ds ρ A = (agOk E ag ρ A ∧ gR E X0 w (aop E (mkO (.index t x y)) (evR ρ) A) d A0 ag lr k ds ρ) := rr_4 rfl
theorem o_lookup {t x y ok} : rO E X0 w (⟨.always, d, .lookup t x y ok⟩ :: l) k ds ρ A = gO E X0 w (aop E (mkO (.lookup t x y ok)) (evR ρ) A) d l k ds ρ := o_gen rfl
theorem r0_lookup {t x y ok} : rR E X0 w A0 ag ((0, ⟨.always, d, .lookup t x y ok⟩) :: lr) k ds ρ A = gR E X0 w (aop E (mkO (.lookup t x y ok)) (evR ρ) A) d A0 ag lr k ds ρ := rr_0 rfl
theorem r1_lookup {t x y ok} : rR E X0 w A0 ag ((1, ⟨.always, d, .lookup t x y ok⟩) :: lr) k ds ρ A = gR E X0 w (aop E (mkO (.lookup t x y ok)) (evR ρ) A) d A0 ag lr k ds ρ := rr_1 rfl
theorem r2_lookup {t x y ok} : rR E X0 w A0 ag ((2, ⟨.always, d, .lookup t x y ok⟩) :: lr) k ds ρ A = gR E X0 w (aop E (mkO (.lookup t x y ok)) (evR ρ) A) d A0 ag lr k ds ρ := rr_2 rfl
theorem r4_lookup {t x y ok} : rR E X0 w A0 ag ((4, ⟨.always, d, .lookup t x y ok⟩) :: lr) k ds ρ A = (agOk E ag ρ A ∧ gR E X0 w (aop E (mkO (.lookup t x y ok)) (evR ρ) A) d A0 ag lr k ds ρ) := rr_4 rfl
theorem o_mapUpdate {t x y z} : rO E X0 w (⟨.always, d, .mapUpdate t x y z⟩ :: l) k ds ρ A = gO E X0 w (aop E (mkO (.mapUpdate t x y z)) (evR ρ) A) d l k ds ρ := o_gen rfl
theorem r0_mapUpdate {t x y z} : rR E X0 w A0 ag ((0, ⟨.always, d, .mapUpdate t x y z⟩) :: lr) k ds ρ A = gR E X0 w (aop E (mkO (.mapUpdate t x y z)) (evR ρ) A) d A0 ag lr k ds ρ := rr_0 rfl
theorem r1_mapUpdate {t x y z} : rR E X0 w A0 ag ((1, ⟨.always, d, .mapUpdate t x y z⟩) :: lr) k ds ρ A = gR E X0 w (aop E (mkO (.mapUpdate t x y z)) (evR ρ) A) d A0 ag lr k ds ρ := rr_1 rfl
theorem r2_mapUpdate {t x y z} : rR E X0 w A0 ag ((2, ⟨.always, d, .mapUpdate t x y z⟩) :: lr) k ds ρ A = gR E X0 w (aop E (mkO (.mapUpdate t x y z)) (evR ρ) A) d A0 ag lr k ds ρ := rr_2 rfl
theorem r4_mapUpdate {t x y z} : rR E X0 w A0 ag ((4, ⟨.always, d, .mapUpdate t x y z⟩) :: lr) k ds ρ A = (agOk E ag ρ A ∧ gR E X0 w (aop E (mkO (.mapUpdate t x y z)) (evR ρ) A) d A0 ag lr k ds ρ) := rr_4 rfl
theorem o_extract {x i} : rO E X0 w (⟨.always, d, .extract x i⟩ :: l) k ds ρ A = gO E X0 w (aop E (mkO (.extract x i)) (evR ρ) A) d l k ds ρ := o_gen rfl
theorem r0_extract {x i} : rR E X0 w A0 ag ((0, ⟨.always, d, .extract x i⟩) :: lr) k ds ρ A = gR E X0 w (aop E (mkO (.extract x i)) (evR ρ) A) d A0 ag lr k ds ρ := rr_0 rfl
theorem r1_extract {x i} : rR E X0 w A0 ag ((1, ⟨.always, d, .extract x i⟩) :: lr) k ds ρ A = gR E X0 w (aop E (mkO (.extract x i)) (evR ρ) A) d A0 ag lr k ds ρ := rr_1 rfl
theorem r2_extract {x i} : rR E X0 w A0 ag ((2, ⟨.always, d, .extract x i⟩) :: lr) k ds ρ A = gR E X0 w (aop E (mkO (.extract x i)) (evR ρ) A) d A0 ag lr k ds ρ := rr_2 rfl
theorem r4_extract {x i} : rR E X0 w A0 ag ((4, ⟨.always, d, .extract x i⟩) :: lr) k ds ρ A = (agOk E ag ρ A ∧ gR E X0 w (aop E (mkO (.extract x i)) (evR ρ) A) d A0 ag lr k ds ρ) := rr_4 rfl
theorem o_bi {b args ats} : rO E X0 w (⟨.always, d, .call ⟨.builtin b, args, ats⟩⟩ :: l) k ds ρ A = gO E X0 w (aop E (mkO (.call ⟨.builtin b, args, ats⟩)) (evR ρ) A) d l k ds ρ := o_gen rfl
theorem r0_bi {b args ats} : rR E X0 w A0 ag ((0, ⟨.always, d, .call ⟨.builtin b, args, ats⟩⟩) :: lr) k ds ρ A = gR E X0 w (aop E (mkO (.call ⟨.builtin b, args, ats⟩)) (evR ρ) A) d A0 ag lr k ds ρ := rr_0 rfl
theorem r1_bi {b args ats} : rR E X0 w A0 ag ((1, ⟨.always, d, .call ⟨.builtin b, args, ats⟩⟩) :: lr) k ds ρ A = gR E X0 w (aop E (mkO (.call ⟨.builtin b, args, ats⟩)) (evR ρ) A) d A0 ag lr k ds ρ := rr_1 rfl
theorem r2_bi {b args ats} : rR E X0 w A0 ag ((2, ⟨.always, d, .call ⟨.builtin b, args, ats⟩⟩) :: lr) k ds ρ A = gR E X0 w (aop E (mkO (.call ⟨.builtin b, args, ats⟩)) (evR ρ) A) d A0 ag lr k ds ρ := rr_2 rfl
theorem r4_bi {b args ats} : rR E X0 w A0 ag ((4, ⟨.always, d, .call ⟨.builtin b, args, ats⟩⟩) :: lr) k ds ρ A = (agOk E ag ρ A ∧ gR E X0 w (aop E (mkO (.call ⟨.builtin b, args, ats⟩)) (evR ρ) A) d A0 ag lr k ds ρ) := rr_4 rfl
end
end
end Go.Abs

/- Walking over slim code: loops, loops over functions, rounds. -/
namespace Go.Abs
open Go
noncomputable section
variable {P : Program} {E : Env P} {X0 : Ext0}

theorem sPut_mono {ρ : Rho} {dst : Option Tmp} {v : Value} {k k' : Rho → Prop} (hk : ∀ ρ, k ρ → k' ρ) (h : sPut ρ dst v k) : sPut ρ dst v k' := by
  rw [sPut_updO] at h ⊢; exact hk _ h
theorem sGd_mono {g : SG} {ρ : Rho} {Y N Y' N' : Prop} (hY : Y → Y') (hN : N → N') (h : sGd g ρ Y N) : sGd g ρ Y' N' := by
  cases g with
  | always => exact hY h
  | never => exact hN h
  | on d b => exact wG_mono hY hN h
theorem sStep_mono {o : SO} {ρ : Rho} {A : AHeap} {k k' : Rho → AHeap → Prop} (hk : ∀ ρ A, k ρ A → k' ρ A) (h : sStep E X0 o ρ A k) : sStep E X0 o ρ A k' := by
  unfold sStep at h ⊢
  split at h
  · split at h
    · exact wE_mono (fun _ h => wEs_mono (fun _ h => wApp_mono (fun _ _ h => sPut_mono (fun _ h => hk _ _ h) h) h) h) h
    · exact wOp_mono (fun _ _ h => sPut_mono (fun _ h => hk _ _ h) h) h
  · exact wOp_mono (fun _ _ h => sPut_mono (fun _ h => hk _ _ h) h) h
theorem sStepD_mono {rd : Option Nat} {o : SO} {ds : List Deferred} {ρ : Rho} {A : AHeap} {k k' : KTP} (hk : ∀ ds ρ A, k ds ρ A → k' ds ρ A) (h : sStepD E X0 rd o ds ρ A k) : sStepD E X0 rd o ds ρ A k' := by
  unfold sStepD at h ⊢
  split at h
  · split at h
    · exact wE_mono (fun _ h => wEs_mono (fun _ h => wFn_mono (fun _ _ _ h => sPut_mono (fun _ h => hk _ _ _ h) h) h) h) h
    · exact h
  · exact sStep_mono (fun _ _ h => hk _ _ _ h) h
theorem sOps_mono {rd : Option Nat} : ∀ {l : List SO} {k k' : KTP} {ds : List Deferred} {ρ : Rho} {A : AHeap}, (∀ ds ρ A, k ds ρ A → k' ds ρ A) → sOps E X0 rd l k ds ρ A → sOps E X0 rd l k' ds ρ A
  | [], k, k', ds, ρ, A, hk, h => hk _ _ _ h
  | o :: l, k, k', ds, ρ, A, hk, h => by
    have h' : sGd o.g ρ (sStepD E X0 rd o ds ρ A (sOps E X0 rd l k)) (sPut ρ o.d undef fun ρ' => sOps E X0 rd l k ds ρ' A) := h
    exact sGd_mono (fun h => sStepD_mono (fun _ _ _ h => sOps_mono hk h) h) (fun h => sPut_mono (fun _ h => sOps_mono hk h) h) h'
theorem sAg_mono {ag : List SO} {ρ : Rho} {A : AHeap} {k k' : Prop} (hk : k → k') (h : sAg E ag ρ A k) : sAg E ag ρ A k' := by
  have e : ∀ {k}, sAg E ag ρ A k ↔ (sAg E ag ρ A True ∧ k) := rr_nil.sAg_and
  exact e.2 ⟨(e.1 h).1, hk (e.1 h).2⟩
theorem sStepQ_mono {o : SO} {ρ : Rho} {A : AHeap} {k k' : Rho → AHeap → Prop} (hk : ∀ ρ A, k ρ A → k' ρ A) (h : sStepQ E X0 o ρ A k) : sStepQ E X0 o ρ A k' := by
  unfold sStepQ at h ⊢
  split at h
  · split at h
    · exact wE_mono (fun _ h => wEs_mono (fun _ h => wAppQ_mono (fun _ _ h => sPut_mono (fun _ h => hk _ _ h) h) h) h) h
    · exact h
  · exact h
theorem sTag_mono {A0 : AHeap} {g : Nat} {o : SO} {ρ : Rho} {A : AHeap} {k k' : Rho → AHeap → Prop} (hk : ∀ ρ A, k ρ A → k' ρ A) (h : sTag E X0 A0 g o ρ A k) : sTag E X0 A0 g o ρ A k' := by
  unfold sTag at h ⊢
  cases h5 : Nat.beq g 5 with
  | true =>
    rw [h5] at h
    have h : wOp E (mkO o.op) ρ A0 (fun v _ => sPut ρ o.d v fun ρ' => k ρ' A) := h
    show wOp E (mkO o.op) ρ A0 (fun v _ => sPut ρ o.d v fun ρ' => k' ρ' A)
    exact wOp_mono (fun _ _ h => sPut_mono (fun _ h => hk _ _ h) h) h
  | false =>
    rw [h5] at h
    cases h3 : Nat.beq g 3 with
    | true => rw [h3] at h; exact sStepQ_mono hk h
    | false => rw [h3] at h; exact sStep_mono hk h
theorem sRun_mono {A0 : AHeap} {ag : List SO} : ∀ {l : List (Nat × SO)} {ρ : Rho} {A : AHeap} {k k' : Rho → AHeap → Prop}, (∀ ρ A, k ρ A → k' ρ A) → sRun E X0 A0 ag l ρ A k → sRun E X0 A0 ag l ρ A k'
  | [], ρ, A, k, k', hk, h => sAg_mono (hk _ _) h
  | p :: l, ρ, A, k, k', hk, h => by
    have one : (sGd p.2.g ρ (sTag E X0 A0 p.1 p.2 ρ A fun ρ A => sRun E X0 A0 ag l ρ A k) (sPut ρ p.2.d undef fun ρ' => sRun E X0 A0 ag l ρ' A k)) →
      (sGd p.2.g ρ (sTag E X0 A0 p.1 p.2 ρ A fun ρ A => sRun E X0 A0 ag l ρ A k') (sPut ρ p.2.d undef fun ρ' => sRun E X0 A0 ag l ρ' A k')) :=
      sGd_mono (sTag_mono fun _ _ h => sRun_mono hk h) (sPut_mono fun _ h => sRun_mono hk h)
    have h' : bif Nat.beq p.1 4 then sAg E ag ρ A (sGd p.2.g ρ (sTag E X0 A0 p.1 p.2 ρ A fun ρ A => sRun E X0 A0 ag l ρ A k) (sPut ρ p.2.d undef fun ρ' => sRun E X0 A0 ag l ρ' A k))
      else sGd p.2.g ρ (sTag E X0 A0 p.1 p.2 ρ A fun ρ A => sRun E X0 A0 ag l ρ A k) (sPut ρ p.2.d undef fun ρ' => sRun E X0 A0 ag l ρ' A k) := h
    show bif Nat.beq p.1 4 then sAg E ag ρ A (sGd p.2.g ρ (sTag E X0 A0 p.1 p.2 ρ A fun ρ A => sRun E X0 A0 ag l ρ A k') (sPut ρ p.2.d undef fun ρ' => sRun E X0 A0 ag l ρ' A k'))
      else sGd p.2.g ρ (sTag E X0 A0 p.1 p.2 ρ A fun ρ A => sRun E X0 A0 ag l ρ A k') (sPut ρ p.2.d undef fun ρ' => sRun E X0 A0 ag l ρ' A k')
    cases e : Nat.beq p.1 4 with
    | true => rw [e] at h'; exact sAg_mono one h'
    | false => rw [e] at h'; exact one h'
variable {fn : FuncId} {rd : Option Nat} {n : Nat}
theorem wBlk_mono {id : Nat} {K K' : KTP} {X X' : KXP} (hK : ∀ ds ρ A, K ds ρ A → K' ds ρ A) (hX : ∀ e ds ρ A, X e ds ρ A → X' e ds ρ A) : ∀ e ds ρ A, wBlk id K X e ds ρ A → wBlk id K' X' e ds ρ A := by
  intro e ds ρ A h
  cases e with
  | normal => exact h
  | ret => exact hX _ _ _ _ h
  | exit id' =>
    have h : (bif Nat.beq id' id then K ds ρ A else X (.exit id') ds ρ A) := h
    show (bif Nat.beq id' id then K' ds ρ A else X' (.exit id') ds ρ A)
    cases e : Nat.beq id' id with
    | true => rw [e] at h; exact hK _ _ _ h
    | false => rw [e] at h; exact hX _ _ _ _ h
theorem wpS_mono : ∀ (c : SC), Mono (wpS E X0 fn rd n c) := by
  intro c
  induction c with
  | skip => exact fun _ _ _ _ _ _ _ hK _ h => hK _ _ _ h
  | exit id => exact fun _ _ _ _ _ _ _ _ hX h => hX _ _ _ _ h
  | ret => exact fun _ _ _ _ _ _ _ _ hX h => hX _ _ _ _ h
  | no => exact fun _ _ _ _ _ _ _ _ _ h => h
  | ops l => exact fun _ _ _ _ _ _ _ hK _ h => sOps_mono hK h
  | draw ag l => exact fun K K' X X' ds ρ A hK _ h => sRun_mono (fun _ _ h => hK _ _ _ h) h
  | seq a b iha ihb => exact fun K K' X X' ds ρ A hK hX h => iha _ _ _ _ _ _ _ (fun _ _ _ h => ihb _ _ _ _ _ _ _ hK hX h) hX h
  | cond x a b iha ihb => exact fun K K' X X' ds ρ A hK hX h => wE_mono (fun v h => wIf_mono (iha _ _ _ _ _ _ _ hK hX) (ihb _ _ _ _ _ _ _ hK hX) h) h
  | blk id a iha => exact fun K K' X X' ds ρ A hK hX h => iha _ _ _ _ _ _ _ hK (wBlk_mono hK hX) h
  | loop a iha =>
    intro K K' X X' ds ρ A hK hX h
    obtain ⟨k, h⟩ := h
    exact ⟨k, loopW_mono (a := wpS E X0 fn rd n a) iha hX k ds ρ A h⟩
  | range f ps asg body =>
    intro K K' X X' ds ρ A hK hX h
    have h : wRange E X0 fn rd n f ps asg body K X ds ρ A := h
    show wRange E X0 fn rd n f ps asg body K' X' ds ρ A
    refine wE_mono (fun _ h => wFn_mono (fun _ _ _ h => wO_mono (fun _ h tm e => wApp_mono (fun _ A2 h => ?_) (h tm e)) h) h) h
    obtain ⟨r, h1, h2, h3⟩ := h
    exact ⟨r, h1, h2, wJump_mono hK hX h3⟩

variable {w : WX} {k : Kt} {ds : List Deferred} {ρ : Rho} {A : AHeap}
/-- A LOOP. -/
theorem r_loop {a : SC} (I : Nat → KTP) {m : Nat} (h : I m ds ρ A)
    (step : ∀ m ds ρ A, I m ds ρ A → rC E X0 w a (.top (fun ds ρ A => ∃ m', m' < m ∧ I m' ds ρ A) (fun e ds ρ A => rX E X0 w e k ds ρ A)) ds ρ A) : rC E X0 w (.loop a) k ds ρ A :=
  wLoop_inv (wpS_mono a) I step h

/-- What is laid where a loop over a function begins, outside of all such loops. -/
def startA (A : AHeap) (w : WX) (tm : T Value) (ps : Array Tmp) (asg body : Code) : AHeap :=
  (A.push .marks).push (.loop { state := .ready, pending := none, fn := w.fn, n := w.n, tmps := tm, params := ps, assign := asg, body, defers := A.next })
/-- A LOOP OVER A FUNCTION, outside of all such loops. -/
theorem r_range {f : Operand} {ps : Array Tmp} {asg body : Code} {g : FuncId} {first cap : Array Value} {fn n : Nat} (hf : evR ρ f = some (.func (.func g) first cap))
    (h : ∀ tm, rhoOf tm = ρ → wCall E X0 g (first.toList ++ [.func (.yield (A.next + 1)) #[] #[]] ++ cap.toList) (startA A ⟨fn, none, n⟩ tm ps asg body) fun _ A2 =>
      ∃ r, A2.obj (A.next + 1) = some (.loop r) ∧ r.state ≠ .busy ∧ wJump r.pending (rK E X0 ⟨fn, none, n⟩ k) (fun e => rX E X0 ⟨fn, none, n⟩ e k) ({ target := .collected A.next, args := #[] } :: ds) ρ (A2.set (A.next + 1) (.loop { r with state := .exhausted }))) :
    rC E X0 ⟨fn, none, n⟩ (.range f ps asg body) k ds ρ A := by
  show wRange E X0 fn none n f ps asg body _ _ ds ρ A
  unfold wRange
  rw [hf]
  refine ⟨none, rfl, fun tm e => wApp_fn (h tm e)⟩
/-- The same within a round of another loop. -/
theorem r_rangeIn {f : Operand} {ps : Array Tmp} {asg body : Code} {g : FuncId} {first cap : Array Value} {fn n l : Nat} {q : ALoop} (hf : evR ρ f = some (.func (.func g) first cap)) (hq : A.obj l = some (.loop q))
    (h : ∀ tm, rhoOf tm = ρ → wCall E X0 g (first.toList ++ [.func (.yield A.next) #[] #[]] ++ cap.toList)
      (A.push (.loop { state := .ready, pending := none, fn, n, tmps := tm, params := ps, assign := asg, body, defers := q.defers })) fun _ A2 =>
      ∃ r, A2.obj A.next = some (.loop r) ∧ r.state ≠ .busy ∧ wJump r.pending (rK E X0 ⟨fn, some l, n⟩ k) (fun e => rX E X0 ⟨fn, some l, n⟩ e k) ds ρ (A2.set A.next (.loop { r with state := .exhausted }))) :
    rC E X0 ⟨fn, some l, n⟩ (.range f ps asg body) k ds ρ A := by
  show wRange E X0 fn (some l) n f ps asg body _ _ ds ρ A
  unfold wRange
  rw [hf]
  refine ⟨some q.defers, by simp only [loopsAround, hq], fun tm e => wApp_fn (h tm e)⟩

def updL (ρ : Rho) : List Tmp → List Value → Rho
  | p :: ps, v :: vs => updL (upd ρ p v) ps vs
  | _, _ => ρ
theorem rhoOf_setAll : ∀ (ps : List Tmp) (vs : List Value) (tm : T Value), rhoOf (setAll tm (ps.zip vs)) = updL (rhoOf tm) ps vs
  | [], vs, tm => by cases vs <;> rfl
  | p :: ps, [], tm => rfl
  | p :: ps, v :: vs, tm => by
    show rhoOf (setAll (tm.set p v) (ps.zip vs)) = updL (upd (rhoOf tm) p v) ps vs
    rw [rhoOf_setAll ps vs, rhoOf_set]
/-- A ROUND. -/
theorem wYld_R {hm : FuncId → Nat → Option Nat} {l : Nat} {args : List Value} {K : Value → AHeap → Prop} {fn n D : Nat} {tm : T Value} {ps : Array Tmp} {asg body : Code} {sa sb : SC} {pd : Option Code} {st : LoopState}
    (hl : A.obj l = some (.loop ⟨st, pd, fn, n, tm, ps, asg, body, D⟩)) (hn : args.length = ps.size) (hps : (ps.toList.all fun i => Nat.blt i n) = true) (ha : slim E hm fn n asg = sa) (hb : slim E hm fn n body = sb)
    (h : rC E X0 ⟨fn, some l, n⟩ sa (.top (fun ds ρ A => ds = [] ∧ ∃ r1, A.obj l = some (.loop r1) ∧ r1.state = .ready ∧
      rC E X0 ⟨fn, some l, n⟩ sb (.top (wYEnd l K .normal) (wYEnd l K)) [] ρ (A.set l (.loop { r1 with state := .busy }))) (fun _ _ _ _ => False)) [] (updL (rhoOf tm) ps.toList args) A) (hw : WF A) : wYld E X0 l args A K := by
  rw [← ha] at h
  refine wYld_of (hm := hm) hl hn (fun i hi => ?_) ?_ hw
  · rw [List.all_eq_true] at hps
    exact Nat.lt_of_succ_le (Nat.le_of_ble_eq_true (hps i hi))
  · show wpC E X0 hm fn (some l) n asg _ _ [] (rhoOf (setAll tm (ps.toList.zip args))) A
    rw [rhoOf_setAll]
    refine wpC_mono asg _ _ _ _ _ _ _ (fun ds ρ A h => ?_) (fun _ _ _ _ h => h) (wpS_w asg _ _ _ _ _ h)
    obtain ⟨e, r1, h1, h2, h6⟩ := h
    refine ⟨e, r1, h1, h2, fun tm' _ => ?_⟩
    show wpC E X0 hm fn (some l) n body _ _ [] ρ _
    rw [← hb] at h6
    exact wpS_w body _ _ _ _ _ h6
end
end Go.Abs
