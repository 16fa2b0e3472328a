/- The abstract heap of the simulation: a trie of objects; values related up to an injection of blocks. -/
import Derived.AtR
import Derived.Laws.World
import Derived.Laws.Cells
import GoSem.Dispatch
set_option linter.unusedSimpArgs false
set_option linter.unusedVariables false
namespace Go.Abs
open Go

/-! ### A trie keyed by numbers -/
inductive T (α : Type) where
  | e
  | n (l : T α) (v : Option α) (r : T α)

namespace T
variable {α : Type}
def get : T α → Nat → Option α
  | .e, _ => none
  | .n _ v _, 0 => v
  | .n l _ r, k + 1 => match k % 2 with
    | 0 => l.get (k / 2)
    | _ => r.get (k / 2)
def single : Nat → Nat → α → T α
  | 0, _, _ => .e
  | _ + 1, 0, v => .n .e (some v) .e
  | f + 1, k + 1, v => match k % 2 with
    | 0 => .n (single f (k / 2) v) none .e
    | _ => .n .e none (single f (k / 2) v)
def set : T α → Nat → α → T α
  | .e, k, v => single (k + 1) k v
  | .n l _ r, 0, v => .n l (some v) r
  | .n l x r, k + 1, v => match k % 2 with
    | 0 => .n (l.set (k / 2) v) x r
    | _ => .n l x (r.set (k / 2) v)
def putList (t : T α) (i : Nat) : List α → T α
  | [] => t
  | v :: vs => putList (t.set i v) (i + 1) vs
def ofList (l : List α) : T α := putList .e 0 l

theorem get_e (k : Nat) : (T.e : T α).get k = none := by cases k <;> rfl

theorem get_single (f k : Nat) (v : α) (j : Nat) (h : k < f) : (single f k v).get j = if j = k then some v else none := by
  induction f generalizing k j with
  | zero => omega
  | succ f ih =>
    cases k with
    | zero => cases j with
      | zero => simp [single, get]
      | succ j => simp only [single, get]; split <;> simp
    | succ k =>
      have h2 : k / 2 < f := by omega
      rcases Nat.mod_two_eq_zero_or_one k with hk | hk
      · simp only [single, hk]
        cases j with
        | zero => simp [get]
        | succ j =>
          rcases Nat.mod_two_eq_zero_or_one j with hj | hj
          · simp only [get, hj, ih (k / 2) (j / 2) h2]
            by_cases e : j = k
            · subst e; simp
            · rw [if_neg (by omega), if_neg (by omega)]
          · simp only [get, hj]
            rw [if_neg (by omega)]
      · simp only [single, hk]
        cases j with
        | zero => simp [get]
        | succ j =>
          rcases Nat.mod_two_eq_zero_or_one j with hj | hj
          · simp only [get, hj]
            rw [if_neg (by omega)]
          · simp only [get, hj, ih (k / 2) (j / 2) h2]
            by_cases e : j = k
            · subst e; simp
            · rw [if_neg (by omega), if_neg (by omega)]

theorem get_set (t : T α) (k : Nat) (v : α) (j : Nat) : (t.set k v).get j = if j = k then some v else t.get j := by
  induction t generalizing k j with
  | e => simp only [set, get_e]; exact get_single _ _ _ _ (by omega)
  | n l x r ihl ihr =>
    cases k with
    | zero => cases j <;> simp [set, get]
    | succ k =>
      rcases Nat.mod_two_eq_zero_or_one k with hk | hk
      · simp only [set, hk]
        cases j with
        | zero => simp [get]
        | succ j =>
          rcases Nat.mod_two_eq_zero_or_one j with hj | hj
          · simp only [get, hj, ihl]
            by_cases e : j = k
            · subst e; simp
            · rw [if_neg (by omega), if_neg (by omega)]
          · simp only [get, hj]
            rw [if_neg (by omega)]
      · simp only [set, hk]
        cases j with
        | zero => simp [get]
        | succ j =>
          rcases Nat.mod_two_eq_zero_or_one j with hj | hj
          · simp only [get, hj]
            rw [if_neg (by omega)]
          · simp only [get, hj, ihr]
            by_cases e : j = k
            · subst e; simp
            · rw [if_neg (by omega), if_neg (by omega)]

theorem get_putList (t : T α) (i : Nat) (l : List α) (j : Nat) :
    (t.putList i l).get j = if i ≤ j ∧ j < i + l.length then l[j - i]? else t.get j := by
  induction l generalizing t i with
  | nil => simp [putList]; omega
  | cons v vs ih =>
    simp only [putList, ih, get_set, List.length_cons]
    by_cases h : i + 1 ≤ j ∧ j < i + 1 + vs.length
    · rw [if_pos h, if_pos (by omega)]
      obtain ⟨d, rfl⟩ : ∃ d, j = i + 1 + d := ⟨j - (i + 1), by omega⟩
      rw [show i + 1 + d - (i + 1) = d from by omega, show i + 1 + d - i = d + 1 from by omega]
      simp
    · rw [if_neg h]
      by_cases e : j = i
      · subst e; rw [if_pos rfl, if_pos (by omega)]; simp
      · rw [if_neg e, if_neg (by omega)]

theorem get_ofList (l : List α) (j : Nat) : (ofList l).get j = l[j]? := by
  unfold ofList
  rw [get_putList, get_e]
  by_cases h : j < l.length
  · rw [if_pos (by omega)]; simp
  · rw [if_neg (by omega)]; simp [List.getElem?_eq_none (by omega : l.length ≤ j)]
end T

/-! ### Values up to an injection -/
/-- Where an abstract object lies: a block, a shift in it; the block's cells, and the cells of an element of a row (0: no row that is appended to). -/
structure Loc where
  blk : Nat
  sh : Nat
  lim : Nat
  es : Nat

abbrev Inj := Nat → Option Loc

inductive VR (ι : Inj) : Value → Value → Prop where
  | bool (b : Bool) : VR ι (.bool b) (.bool b)
  | int (k : IntKind) (n : Int) : VR ι (.int k n) (.int k n)
  | string (s : ByteArray) : VR ι (.string s) (.string s)
  | nilPtr : VR ι (.pointer none) (.pointer none)
  | ptr {i o : Nat} {l : Loc} (h : ι i = some l) : VR ι (.pointer (some ⟨i, o, none⟩)) (.pointer (some ⟨l.blk, l.sh + o, none⟩))
  | nilSlice : VR ι (.slice none 0 0) (.slice none 0 0)
  | slice {i o n c c' : Nat} {l : Loc} (h : ι i = some l) (hn : n ≤ c) (hc : c ≤ c') (hl : l.sh + o + c' * l.es ≤ l.lim) :
      VR ι (.slice (some ⟨i, o, none⟩) n c) (.slice (some ⟨l.blk, l.sh + o, none⟩) n c')
  /-- An empty slice that may take nothing: where it lies tells nothing. -/
  | slice0 {i o o' : Nat} {l : Loc} (h : ι i = some l) : VR ι (.slice (some ⟨i, o, none⟩) 0 0) (.slice (some ⟨l.blk, o', none⟩) 0 0)
  /-- .. and one that is known to be so. -/
  | sliceZ {i o o' : Nat} {l : Loc} (h : ι i = some l) : VR ι (.slice (some ⟨i, o, some 0⟩) 0 0) (.slice (some ⟨l.blk, o', none⟩) 0 0)
  | nilMap : VR ι (.map none) (.map none)
  | map {i : Nat} {l : Loc} (h : ι i = some l) : VR ι (.map (some i)) (.map (some l.blk))
  | func {f : FuncId} {a a' c c' : Array Value} (hs : a.size = a'.size) (h : ∀ i (h : i < a.size) (h' : i < a'.size), VR ι a[i] a'[i])
      (hs' : c.size = c'.size) (h' : ∀ i (h : i < c.size) (h' : i < c'.size), VR ι c[i] c'[i]) : VR ι (.func (.func f) a c) (.func (.func f) a' c')
  | yield {i : Nat} {l : Loc} (h : ι i = some l) : VR ι (.func (.yield i) #[] #[]) (.func (.yield l.blk) #[] #[])
  | nilFunc : VR ι .nilFunc .nilFunc
  | nilIface : VR ι .nilIface .nilIface
  | agg {a a' : Array Value} (hs : a.size = a'.size) (h : ∀ i (h : i < a.size) (h' : i < a'.size), VR ι a[i] a'[i]) : VR ι (.agg a) (.agg a')
  | tuple {a a' : Array Value} (hs : a.size = a'.size) (h : ∀ i (h : i < a.size) (h' : i < a'.size), VR ι a[i] a'[i]) : VR ι (.tuple a) (.tuple a')

/-- Arrays of values, cell by cell. -/
def VRs (ι : Inj) (a a' : Array Value) : Prop := a.size = a'.size ∧ ∀ i (h : i < a.size) (h' : i < a'.size), VR ι a[i] a'[i]

def Inj.le (ι ι' : Inj) : Prop := ∀ i l, ι i = some l → ι' i = some l
theorem Inj.le_refl (ι : Inj) : ι.le ι := fun _ _ h => h
theorem Inj.le_trans {a b c : Inj} (h : a.le b) (h' : b.le c) : a.le c := fun i l e => h' i l (h i l e)

theorem VR.mono {ι ι' : Inj} (hι : ι.le ι') {v v' : Value} (h : VR ι v v') : VR ι' v v' := by
  induction h with
  | bool b => exact .bool b
  | int k n => exact .int k n
  | string s => exact .string s
  | nilPtr => exact .nilPtr
  | ptr h => exact .ptr (hι _ _ h)
  | nilSlice => exact .nilSlice
  | slice h hn hc hl => exact .slice (hι _ _ h) hn hc hl
  | slice0 h => exact .slice0 (hι _ _ h)
  | sliceZ h => exact .sliceZ (hι _ _ h)
  | nilMap => exact .nilMap
  | map h => exact .map (hι _ _ h)
  | func hs _ hs' _ ih ih' => exact .func hs ih hs' ih'
  | yield h => exact .yield (hι _ _ h)
  | nilFunc => exact .nilFunc
  | nilIface => exact .nilIface
  | agg hs _ ih => exact .agg hs ih
  | tuple hs _ ih => exact .tuple hs ih

theorem VRs.mono {ι ι' : Inj} (hι : ι.le ι') {a a' : Array Value} (h : VRs ι a a') : VRs ι' a a' := ⟨h.1, fun i h1 h2 => (h.2 i h1 h2).mono hι⟩

theorem VR.undef (ι : Inj) : VR ι undef undef := .tuple rfl (fun i h _ => by simp at h)

theorem VRs.getD {ι : Inj} {a a' : Array Value} (h : VRs ι a a') (i : Nat) : VR ι (a.getD i Go.undef) (a'.getD i Go.undef) := by
  by_cases hi : i < a.size
  · have hi' : i < a'.size := h.1 ▸ hi
    simp [Array.getD, hi, hi']; exact h.2 i hi hi'
  · have hi' : ¬ i < a'.size := h.1 ▸ hi
    simp [Array.getD, hi, hi']; exact VR.undef ι

theorem VRs.nil {ι : Inj} : VRs ι #[] #[] := ⟨rfl, fun i h _ => by simp at h⟩
theorem VRs.get? {ι : Inj} {a a' : Array Value} (h : VRs ι a a') {i : Nat} {v : Value} (hv : a[i]? = some v) : ∃ v', a'[i]? = some v' ∧ VR ι v v' := by
  obtain ⟨hi, rfl⟩ := Array.getElem?_eq_some_iff.1 hv
  have hi' : i < a'.size := h.1 ▸ hi
  exact ⟨a'[i], by simp [hi'], h.2 i hi hi'⟩
theorem VRs.append {ι : Inj} {a a' b b' : Array Value} (h : VRs ι a a') (h' : VRs ι b b') : VRs ι (a ++ b) (a' ++ b') := by
  refine ⟨by simp [h.1, h'.1], fun i h1 h2 => ?_⟩
  by_cases hi : i < a.size
  · have hi' : i < a'.size := h.1 ▸ hi
    rw [Array.getElem_append_left hi, Array.getElem_append_left hi']; exact h.2 i hi hi'
  · have hi' : ¬ i < a'.size := h.1 ▸ hi
    have e := h.1
    rw [Array.getElem_append_right (by omega), Array.getElem_append_right (by omega)]
    simp only [e]
    exact h'.2 _ (by simp at h1; omega) (by simp at h2; omega)
theorem VRs.single {ι : Inj} {v v' : Value} (h : VR ι v v') : VRs ι #[v] #[v'] := ⟨rfl, fun i h1 _ => by
  simp at h1; subst h1; simpa using h⟩
theorem VRs.push {ι : Inj} {a a' : Array Value} {v v' : Value} (h : VRs ι a a') (hv : VR ι v v') : VRs ι (a.push v) (a'.push v') := by
  rw [Array.push_eq_append, Array.push_eq_append]; exact h.append (.single hv)
theorem VRs.extract {ι : Inj} {a a' : Array Value} (h : VRs ι a a') (i j : Nat) : VRs ι (a.extract i j) (a'.extract i j) := by
  refine ⟨by simp [h.1], fun k h1 h2 => ?_⟩
  simp only [Array.getElem_extract]
  exact h.2 _ _ _
theorem VRs.setIfInBounds {ι : Inj} {a a' : Array Value} {v v' : Value} (h : VRs ι a a') (hv : VR ι v v') (d : Nat) : VRs ι (a.setIfInBounds d v) (a'.setIfInBounds d v') := by
  refine ⟨by simp [h.1], fun k h1 h2 => ?_⟩
  simp only [Array.size_setIfInBounds] at h1 h2
  rw [Array.getElem_setIfInBounds h1, Array.getElem_setIfInBounds h2]
  split
  · exact hv
  · exact h.2 k h1 h2
/-- Lists of values. -/
def VRl (ι : Inj) (a a' : List Value) : Prop := a.length = a'.length ∧ ∀ i (h : i < a.length) (h' : i < a'.length), VR ι a[i] a'[i]
theorem VRs.to_list {ι : Inj} {a a' : Array Value} (h : VRs ι a a') : VRl ι a.toList a'.toList :=
  ⟨by simpa using h.1, fun i h1 h2 => by simpa using h.2 i (by simpa using h1) (by simpa using h2)⟩
theorem VRl.to_array {ι : Inj} {a a' : List Value} (h : VRl ι a a') : VRs ι a.toArray a'.toArray :=
  ⟨by simpa using h.1, fun i h1 h2 => by simpa using h.2 i (by simpa using h1) (by simpa using h2)⟩
theorem VRl.nil {ι : Inj} : VRl ι [] [] := ⟨rfl, fun i h _ => by simp at h⟩
theorem VRl.cons {ι : Inj} {v v' : Value} {a a' : List Value} (hv : VR ι v v') (h : VRl ι a a') : VRl ι (v :: a) (v' :: a') := by
  refine ⟨by simp [h.1], fun i h1 h2 => ?_⟩
  cases i with
  | zero => exact hv
  | succ i => simpa using h.2 i (by simpa using h1) (by simpa using h2)
theorem VRl.head {ι : Inj} {v v' : Value} {a a' : List Value} (h : VRl ι (v :: a) (v' :: a')) : VR ι v v' := h.2 0 (by simp) (by simp)
theorem VRl.tail {ι : Inj} {v v' : Value} {a a' : List Value} (h : VRl ι (v :: a) (v' :: a')) : VRl ι a a' :=
  ⟨by simpa using h.1, fun i h1 h2 => h.2 (i + 1) (Nat.succ_lt_succ h1) (Nat.succ_lt_succ h2)⟩
theorem VRl.inv_cons {ι : Inj} {v : Value} {a b : List Value} (h : VRl ι (v :: a) b) : ∃ v' a', b = v' :: a' ∧ VR ι v v' ∧ VRl ι a a' := by
  cases b with
  | nil => have := h.1; simp at this
  | cons v' a' => exact ⟨v', a', rfl, h.head, h.tail⟩
theorem VRl.inv_nil {ι : Inj} {b : List Value} (h : VRl ι [] b) : b = [] := by
  cases b with
  | nil => rfl
  | cons => have := h.1; simp at this
theorem VRl.mono {ι ι' : Inj} (hι : ι.le ι') {a a' : List Value} (h : VRl ι a a') : VRl ι' a a' := ⟨h.1, fun i h1 h2 => (h.2 i h1 h2).mono hι⟩
theorem VRl.get? {ι : Inj} {a a' : List Value} (h : VRl ι a a') {i : Nat} {v : Value} (hv : a[i]? = some v) : ∃ v', a'[i]? = some v' ∧ VR ι v v' := by
  obtain ⟨hi, rfl⟩ := List.getElem?_eq_some_iff.1 hv
  have hi' : i < a'.length := h.1 ▸ hi
  exact ⟨a'[i], by simp [hi'], h.2 i hi hi'⟩

theorem VR.cells {ι : Inj} {v v' : Value} (h : VR ι v v') : VRs ι v.cells v'.cells := by
  cases h with
  | agg hs h => exact ⟨hs, h⟩
  | func hs h hs' h' => exact .single (.func hs h hs' h')
  | tuple hs h => exact .single (.tuple hs h)
  | slice h hn hc hl => exact .single (.slice h hn hc hl)
  | slice0 h => exact .single (.slice0 h)
  | sliceZ h => exact .single (.sliceZ h)
  | ptr h => exact .single (.ptr h)
  | map h => exact .single (.map h)
  | yield h => exact .single (.yield h)
  | bool b => exact .single (.bool b)
  | int k n => exact .single (.int k n)
  | string s => exact .single (.string s)
  | nilPtr => exact .single .nilPtr
  | nilSlice => exact .single .nilSlice
  | nilMap => exact .single .nilMap
  | nilFunc => exact .single .nilFunc
  | nilIface => exact .single .nilIface

/-! ### Values that bear no address -/
def flat1 : Value → Bool
  | .bool _ | .int _ _ | .string _ | .pointer none | .slice none 0 0 | .map none | .nilFunc | .nilIface => true
  | .func (.func _) a c => a.size == 0 && c.size == 0
  | .tuple vs => vs.size == 0
  | _ => false
def flat : Value → Bool
  | .agg cs => cs.toList.all flat1
  | .tuple cs => cs.toList.all flat1
  | v => flat1 v

theorem flat1_refl {ι : Inj} {v : Value} (h : flat1 v = true) : VR ι v v := by
  unfold flat1 at h
  split at h
  · exact .bool _
  · exact .int _ _
  · exact .string _
  · exact .nilPtr
  · exact .nilSlice
  · exact .nilMap
  · exact .nilFunc
  · exact .nilIface
  · simp at h; obtain ⟨rfl, rfl⟩ := h; exact .func rfl (fun i h => by simp at h) rfl (fun i h => by simp at h)
  · simp at h; subst h; exact .tuple rfl (fun i h => by simp at h)
  · simp at h
theorem flat_refl {ι : Inj} {v : Value} (h : flat v = true) : VR ι v v := by
  unfold flat at h
  split at h
  · rename_i cs
    refine .agg rfl fun i h1 _ => flat1_refl ?_
    simp only [List.all_eq_true] at h
    exact h _ (by simp)
  · rename_i cs
    refine .tuple rfl fun i h1 _ => flat1_refl ?_
    simp only [List.all_eq_true] at h
    exact h _ (by simp)
  · exact flat1_refl h
theorem flat1_eq {ι : Inj} {v v' : Value} (h : flat1 v = true) (hv : VR ι v v') : v' = v := by
  cases hv with
  | func hs h1 hs' h2 =>
    simp [flat1] at h
    obtain ⟨ha, hc⟩ := h
    subst ha; subst hc
    simp at hs hs'
    rw [Array.eq_empty_of_size_eq_zero hs.symm, Array.eq_empty_of_size_eq_zero hs'.symm]
  | tuple hs h1 =>
    simp [flat1] at h
    subst h
    simp at hs
    rw [Array.eq_empty_of_size_eq_zero hs.symm]
  | agg => simp [flat1] at h
  | _ => first | rfl | (simp [flat1] at h)
theorem flat_eq {ι : Inj} {v v' : Value} (h : flat v = true) (hv : VR ι v v') : v' = v := by
  unfold flat at h
  split at h
  · rename_i cs
    cases hv with
    | agg hs h1 =>
      congr 1
      refine Array.ext hs.symm fun i h2 h3 => flat1_eq ?_ (h1 i h3 h2)
      simp only [List.all_eq_true] at h
      exact h _ (by simp)
  · rename_i cs
    cases hv with
    | tuple hs h1 =>
      congr 1
      refine Array.ext hs.symm fun i h2 h3 => flat1_eq ?_ (h1 i h3 h2)
      simp only [List.all_eq_true] at h
      exact h _ (by simp)
  · exact flat1_eq h hv

end Go.Abs

/- The abstract heap, and what it says of a world. -/
namespace Go.Abs
open Go

structure ALoop where
  state : LoopState
  pending : Option Code
  fn : FuncId
  n : Nat
  tmps : T Value
  params : Array Tmp
  assign : Code
  body : Code
  defers : Nat

/-- An abstract object: a row of cells ('ro': it may only be read; 'es': the cells of an element, of a row that may grow; 'z': what a cell holds that was not stored to, round and round), a map, a loop over a function, the marks of deferred calls, one that is gone. -/
inductive AObj where
  | cells (ro : Bool) (es n : Nat) (z : List Value) (c : T Value)
  | map (es : List (Value × Value))
  | loop (r : ALoop)
  | marks
  | dead

def AObj.owned : AObj → Bool
  | .cells ro _ _ _ _ => !ro
  | .map _ | .loop _ | .marks => true
  | .dead => false

/-- 'lw': no object below it was turned since the mark was set. -/
structure AHeap where
  t : T AObj
  next : Nat
  lw : Nat := 0

def AHeap.obj (A : AHeap) (i : Nat) : Option AObj := A.t.get i
def AHeap.set (A : AHeap) (i : Nat) (o : AObj) : AHeap := ⟨A.t.set i o, A.next, bif Nat.blt i A.lw then i else A.lw⟩
def AHeap.push (A : AHeap) (o : AObj) : AHeap := ⟨A.t.set A.next o, A.next + 1, A.lw⟩

theorem AHeap.obj_set (A : AHeap) (i : Nat) (o : AObj) (j : Nat) : (A.set i o).obj j = if j = i then some o else A.obj j := T.get_set _ _ _ _
theorem AHeap.obj_push (A : AHeap) (o : AObj) (j : Nat) : (A.push o).obj j = if j = A.next then some o else A.obj j := T.get_set _ _ _ _
@[simp] theorem AHeap.next_set (A : AHeap) (i : Nat) (o : AObj) : (A.set i o).next = A.next := rfl
@[simp] theorem AHeap.next_push (A : AHeap) (o : AObj) : (A.push o).next = A.next + 1 := rfl

def cellAt (z : List Value) (c : T Value) (k : Nat) : Value :=
  match c.get k with
  | some v => v
  | none => z.getD (k % z.length) undef

/-- Temporaries. -/
def TR (ι : Inj) (n : Nat) (t : T Value) (a : Array Value) : Prop := a.size = n ∧ ∀ i, VR ι ((t.get i).getD undef) (a.getD i undef)

theorem TR.mono {ι ι' : Inj} (hι : ι.le ι') {n : Nat} {t : T Value} {a : Array Value} (h : TR ι n t a) : TR ι' n t a := ⟨h.1, fun i => (h.2 i).mono hι⟩
theorem TR.set {ι : Inj} {n : Nat} {t : T Value} {a : Array Value} {v v' : Value} (h : TR ι n t a) (hv : VR ι v v') {d : Nat} (hd : d < n) :
    TR ι n (t.set d v) (a.setIfInBounds d v') := by
  refine ⟨by simpa using h.1, fun i => ?_⟩
  rw [T.get_set]
  have hs := h.1
  by_cases e : i = d
  · subst e
    simp [Array.getD, hs, hd]; exact hv
  · rw [if_neg e]
    have := h.2 i
    simp only [Array.getD, Array.size_setIfInBounds] at this ⊢
    split
    · rename_i hi
      simp only [hi, dite_true] at this
      have e' : ¬ d = i := fun h => e h.symm
      have e2 : (a.setIfInBounds d v')[i]'(by simpa using hi) = a[i] := by rw [Array.getElem_setIfInBounds hi]; simp [e']
      simp only [Array.getInternal_eq_getElem] at this ⊢
      rw [e2]; exact this
    · rename_i hi
      simp only [hi, dite_false] at this
      exact this

def LoopRel (ι : Inj) (r : ALoop) (r' : Loop) : Prop :=
  r'.state = r.state ∧ r'.pending = r.pending ∧ r'.fn = r.fn ∧ r'.params = r.params ∧ r'.assign = r.assign ∧ r'.body = r.body ∧ TR ι r.n r.tmps r'.tmps ∧
  ∃ l, ι r.defers = some l ∧ r'.defers = l.blk

def CellsRel (ι : Inj) (ro : Bool) (es n : Nat) (z : List Value) (c : T Value) (l : Loc) (w : World) : Prop :=
  ∃ C t fz, w.heap[l.blk]? = some (.cells C t fz) ∧ (ro = false → fz = (0, 0) ∧ l.es = es) ∧ (l.lim = C.size ∧ (ro = true → l.es = 0)) ∧ l.sh + n ≤ C.size ∧
    ∀ k, k < n → ∃ v, C[l.sh + k]? = some v ∧ VR ι (cellAt z c k) v

def ObjRel (ι : Inj) (o : AObj) (l : Loc) (w : World) : Prop :=
  match o with
  | .cells ro es n z c => CellsRel ι ro es n z c l w
  | .map es => ∃ E clk, w.heap[l.blk]? = some (.map E clk) ∧ E.size = es.length ∧
      ∀ k (_ : k < es.length), ∃ e, E[k]? = some e ∧ VR ι es[k].1 e.key ∧ VR ι es[k].2 e.val
  | .loop r => ∃ r', w.heap[l.blk]? = some (.loop r') ∧ LoopRel ι r r'
  | .marks => w.heap[l.blk]? = some (.deferred (some []))
  | .dead => True

/-- What objects, told by a function, say of a world. -/
structure RealF (ι : Inj) (f : Nat → Option AObj) (w : World) : Prop where
  loc : ∀ i o, f i = some o → ∃ l, ι i = some l ∧ ObjRel ι o l w
  dom : ∀ i l, ι i = some l → l.blk < w.heap.size
  sep : ∀ i j o o' l l', f i = some o → f j = some o' → o.owned = true → (o'.owned = true ∨ ∃ es n z c, o' = .cells true es n z c) → ι i = some l → ι j = some l' → l.blk = l'.blk → i = j

abbrev Real (ι : Inj) (A : AHeap) (w : World) : Prop := RealF ι A.obj w

/-- What one run leaves: 'n' the number of the next object. -/
structure ExtF (ι : Inj) (f : Nat → Option AObj) (n : Nat) (w : World) (ι' : Inj) (f' : Nat → Option AObj) (n' : Nat) (w' : World) : Prop where
  mono : ι.le ι'
  next : n ≤ n'
  size : w.heap.size ≤ w'.heap.size
  dom : ∀ i l, ι i = none → ι' i = some l → n ≤ i ∧ i < n'
  keep : ∀ b, b < w.heap.size → (∀ i o l, f i = some o → o.owned = true → ι i = some l → l.blk ≠ b) → w'.heap[b]? = w.heap[b]?
  own : ∀ i o l, f' i = some o → o.owned = true → ι' i = some l → l.blk < w.heap.size → ∃ j o' l', f j = some o' ∧ o'.owned = true ∧ ι j = some l' ∧ l'.blk = l.blk
  os : w'.os = w.os ∧ w'.output = w.output ∧ w'.tape = w.tape
  ro : ∀ i es n z c, f' i = some (.cells true es n z c) → f i = some (.cells true es n z c)
  fz : ∀ a, w'.frozen? a = w.frozen? a

abbrev Ext (ι : Inj) (A : AHeap) (w : World) (ι' : Inj) (A' : AHeap) (w' : World) : Prop := ExtF ι A.obj A.next w ι' A'.obj A'.next w'

theorem Ext.refl (ι : Inj) (A : AHeap) (w : World) : Ext ι A w ι A w where
  mono := ι.le_refl
  next := Nat.le_refl _
  size := Nat.le_refl _
  dom := fun i l h h' => by rw [h] at h'; cases h'
  keep := fun _ _ _ => rfl
  own := fun i o l h ho hl _ => ⟨i, o, l, h, ho, hl, rfl⟩
  os := ⟨rfl, rfl, rfl⟩
  ro := fun _ _ _ _ _ h => h
  fz := fun _ => rfl

theorem ExtF.trans {ι₁ ι₂ ι₃ : Inj} {f₁ f₂ f₃ : Nat → Option AObj} {n₁ n₂ n₃ : Nat} {w₁ w₂ w₃ : World} (h : ExtF ι₁ f₁ n₁ w₁ ι₂ f₂ n₂ w₂) (h' : ExtF ι₂ f₂ n₂ w₂ ι₃ f₃ n₃ w₃) : ExtF ι₁ f₁ n₁ w₁ ι₃ f₃ n₃ w₃ where
  mono := Inj.le_trans h.mono h'.mono
  next := Nat.le_trans h.next h'.next
  size := Nat.le_trans h.size h'.size
  dom := fun i l e e' => by
    cases e2 : ι₂ i with
    | none => exact ⟨Nat.le_trans h.next (h'.dom i l e2 e').1, (h'.dom i l e2 e').2⟩
    | some l2 => exact ⟨(h.dom i l2 e e2).1, Nat.lt_of_lt_of_le (h.dom i l2 e e2).2 h'.next⟩
  keep := fun b hb hn => by
    rw [h'.keep b (Nat.lt_of_lt_of_le hb h.size) (fun i o l ho hw hl e => ?_), h.keep b hb hn]
    subst e
    obtain ⟨j, o', l', hj, hw', hl', e⟩ := h.own i o l ho hw hl hb
    exact hn j o' l' hj hw' hl' e
  own := fun i o l ho hw hl hb => by
    obtain ⟨j, o', l', hj, hw', hl', e⟩ := h'.own i o l ho hw hl (Nat.lt_of_lt_of_le hb h.size)
    obtain ⟨k, o'', l'', hk, hw'', hl'', e'⟩ := h.own j o' l' hj hw' hl' (e ▸ hb)
    exact ⟨k, o'', l'', hk, hw'', hl'', e'.trans e⟩
  os := ⟨h'.os.1.trans h.os.1, h'.os.2.1.trans h.os.2.1, h'.os.2.2.trans h.os.2.2⟩
  ro := fun i es n z c e => h.ro i es n z c (h'.ro i es n z c e)
  fz := fun a => (h'.fz a).trans (h.fz a)

theorem Ext.trans {ι₁ ι₂ ι₃ : Inj} {A₁ A₂ A₃ : AHeap} {w₁ w₂ w₃ : World} (h : Ext ι₁ A₁ w₁ ι₂ A₂ w₂) (h' : Ext ι₂ A₂ w₂ ι₃ A₃ w₃) : Ext ι₁ A₁ w₁ ι₃ A₃ w₃ := ExtF.trans h h'

theorem CellsRel.mono {ι ι' : Inj} (hι : ι.le ι') {ro : Bool} {es n : Nat} {z : List Value} {c : T Value} {l : Loc} {w w' : World}
    (hw : w'.heap[l.blk]? = w.heap[l.blk]?) (h : CellsRel ι ro es n z c l w) : CellsRel ι' ro es n z c l w' := by
  obtain ⟨C, t, fz, h1, h2, h2', h3, h4⟩ := h
  exact ⟨C, t, fz, hw.trans h1, h2, h2', h3, fun k hk => let ⟨v, a, b⟩ := h4 k hk; ⟨v, a, b.mono hι⟩⟩

/-- An object stays what it is where its block does. -/
theorem ObjRel.mono {ι ι' : Inj} (hι : ι.le ι') {o : AObj} {l : Loc} {w w' : World} (hw : w'.heap[l.blk]? = w.heap[l.blk]?) (h : ObjRel ι o l w) : ObjRel ι' o l w' := by
  cases o with
  | cells ro es n z c => exact CellsRel.mono hι hw h
  | map es =>
    obtain ⟨E, clk, h1, h2, h3⟩ := h
    exact ⟨E, clk, hw.trans h1, h2, fun k hk => let ⟨e, a, b, c⟩ := h3 k hk; ⟨e, a, b.mono hι, c.mono hι⟩⟩
  | loop r =>
    obtain ⟨r', h1, a, b, c, d, e, f, g, l', h, i⟩ := h
    exact ⟨r', hw.trans h1, a, b, c, d, e, f, g.mono hι, l', hι _ _ h, i⟩
  | marks => exact hw.trans h
  | dead => trivial

def World.sameBut (w w' : World) : Prop := w'.os = w.os ∧ w'.output = w.output ∧ w'.tape = w.tape

def Inj.put (ι : Inj) (i : Nat) (l : Loc) : Inj := fun j => if j = i then some l else ι j
theorem Inj.put_same (ι : Inj) (i : Nat) (l : Loc) : ι.put i l i = some l := by simp [Inj.put]
theorem Inj.put_other (ι : Inj) {i j : Nat} (l : Loc) (h : j ≠ i) : ι.put i l j = ι j := by simp [Inj.put, h]
theorem Inj.le_put {ι : Inj} {i : Nat} {l : Loc} (h : ι i = none) : ι.le (ι.put i l) := fun j m e => by
  by_cases hj : j = i
  · subst hj; rw [h] at e; cases e
  · rw [Inj.put_other _ _ hj]; exact e

/-- The numbers that a run gives are no elder object's. -/
def Fresh (ι : Inj) (A A' : AHeap) : Prop := ∀ i, A.next ≤ i → i < A'.next → ι i = none
theorem Fresh.left {ι : Inj} {A B C : AHeap} (h : Fresh ι A C) (hn : B.next ≤ C.next) : Fresh ι A B := fun i a b => h i a (Nat.lt_of_lt_of_le b hn)
theorem Fresh.right {ι ι' : Inj} {A B C : AHeap} {w w' : World} (h : Fresh ι A C) (hx : Ext ι A w ι' B w') : Fresh ι' B C := fun i a b => by
  cases e : ι' i with
  | none => rfl
  | some l =>
    have := (hx.dom i l (h i (Nat.le_trans hx.next a) b) e).2
    omega

/-- A new block, a new object. -/
def Obj.cold (O : Obj) : Prop := ∀ C t fz, O = .cells C t fz → fz = (0, 0)
theorem cold_at {w : World} {a : Addr} (h : ∀ O, w.heap[a.block]? = some O → Obj.cold O) : w.frozen? a = false := by
  unfold World.frozen?
  split
  · rename_i C t lo hi e
    have := h _ e _ _ _ rfl
    cases this
    simp
  · rfl
theorem ObjRel.cold {ι : Inj} {o : AObj} {l : Loc} {w : World} (h : ObjRel ι o l w) (ho : o.owned = true) : ∀ a : Addr, a.block = l.blk → w.frozen? a = false := by
  intro a ha
  refine cold_at fun O hO => ?_
  rw [ha] at hO
  intro C t fz e
  subst e
  cases o with
  | cells ro es n z c =>
    obtain ⟨C', t', fz', h1, h2, _⟩ := h
    rw [hO] at h1; cases h1
    cases ro with
    | true => cases ho
    | false => exact (h2 rfl).1
  | map es =>
    obtain ⟨_, _, h1, _⟩ := h
    rw [hO] at h1; cases h1
  | loop r =>
    obtain ⟨_, h1, _⟩ := h
    rw [hO] at h1; cases h1
  | marks =>
    simp only [ObjRel] at h
    rw [hO] at h; cases h
  | dead => cases ho

theorem Real.push {ι : Inj} {A : AHeap} {w : World} (h : Real ι A w) (hnew : ι A.next = none) (O : Obj) (o : AObj) (l : Loc) (hl : l.blk = w.heap.size)
    (ho : ObjRel (ι.put A.next l) o l { w with heap := w.heap.push O }) (hro : ∀ es n z c, o ≠ .cells true es n z c := by nofun) (hO : Obj.cold O := by first | exact fun _ _ _ e => (by cases e; rfl) | (intro C t fz e; cases e)) :
    Real (ι.put A.next l) (A.push o) { w with heap := w.heap.push O } ∧ Ext ι A w (ι.put A.next l) (A.push o) { w with heap := w.heap.push O } := by
  have hle : ι.le (ι.put A.next l) := Inj.le_put hnew
  have hold : ∀ i, i ≠ A.next → (ι.put A.next l) i = ι i := fun i hi => Inj.put_other _ _ hi
  have hb : ∀ b, b < w.heap.size → (w.heap.push O)[b]? = w.heap[b]? := fun b hb => by
    rw [Array.getElem?_push]; rw [if_neg (by omega)]
  have objs : ∀ i o', (A.push o).obj i = some o' → (i = A.next ∧ o' = o) ∨ (i ≠ A.next ∧ A.obj i = some o') := fun i o' e => by
    rw [AHeap.obj_push] at e
    by_cases hi : i = A.next
    · rw [if_pos hi] at e; cases e; exact .inl ⟨hi, rfl⟩
    · rw [if_neg hi] at e; exact .inr ⟨hi, e⟩
  refine ⟨⟨?_, ?_, ?_⟩, ⟨hle, by simp, by simp, ?_, ?_, ?_, ⟨rfl, rfl, rfl⟩, fun i es n z c e => by
    rcases objs i _ e with ⟨_, e'⟩ | ⟨_, e'⟩
    · exact absurd e'.symm (hro es n z c)
    · exact e', ?_⟩⟩
  · intro i o' e
    rcases objs i o' e with ⟨rfl, rfl⟩ | ⟨hi, e⟩
    · exact ⟨l, Inj.put_same _ _ _, ho⟩
    · obtain ⟨l', hl', hr⟩ := h.loc i o' e
      exact ⟨l', hle _ _ hl', hr.mono hle (hb _ (h.dom _ _ hl'))⟩
  · intro i l' e
    by_cases hi : i = A.next
    · subst hi; rw [Inj.put_same] at e; cases e
      simp [hl]
    · rw [hold i hi] at e
      have := h.dom _ _ e
      simp; omega
  · intro i j o₁ o₂ l₁ l₂ e₁ e₂ w₁ w₂ k₁ k₂ eb
    rcases objs i o₁ e₁ with ⟨rfl, rfl⟩ | ⟨hi, e₁⟩ <;> rcases objs j o₂ e₂ with ⟨rfl, rfl⟩ | ⟨hj, e₂⟩
    · rfl
    · rw [Inj.put_same] at k₁; cases k₁
      rw [hold j hj] at k₂
      have := h.dom _ _ k₂
      omega
    · rw [Inj.put_same] at k₂; cases k₂
      rw [hold i hi] at k₁
      have := h.dom _ _ k₁
      omega
    · rw [hold i hi] at k₁; rw [hold j hj] at k₂
      exact h.sep i j o₁ o₂ l₁ l₂ e₁ e₂ w₁ w₂ k₁ k₂ eb
  · intro i l' e e'
    by_cases hi : i = A.next
    · simp; omega
    · rw [hold i hi, e] at e'; cases e'
  · intro b hb' _; exact hb b hb'
  · intro i o' l' e hw k hk
    rcases objs i o' e with ⟨rfl, rfl⟩ | ⟨hi, e⟩
    · rw [Inj.put_same] at k; cases k; omega
    · rw [hold i hi] at k
      exact ⟨i, o', l', e, hw, k, rfl⟩
  · intro a
    by_cases ha : a.block = w.heap.size
    · rw [cold_at (w := w) (fun O hO => by rw [ha, Array.getElem?_eq_none (Nat.le_refl _)] at hO; cases hO)]
      refine cold_at fun O' hO' => ?_
      have : (w.heap.push O)[a.block]? = some O' := hO'
      rw [ha] at this
      simp at this
      subst this; exact hO
    · have : (w.heap.push O)[a.block]? = w.heap[a.block]? := by rw [Array.getElem?_push]; rw [if_neg ha]
      simp only [World.frozen?, this]

/-- An owned object turns, and its block with it. -/
theorem Real.turn {ι : Inj} {A : AHeap} {w w' : World} (h : Real ι A w) {i : Nat} {o o' : AObj} {l : Loc} (hi : A.obj i = some o) (hw : o.owned = true) (hl : ι i = some l)
    (hs : w'.heap.size = w.heap.size) (hb : ∀ b, b ≠ l.blk → w'.heap[b]? = w.heap[b]?) (hos : w'.os = w.os ∧ w'.output = w.output ∧ w'.tape = w.tape)
    (hro : ∀ es n z c, o' ≠ .cells true es n z c) (ho : ObjRel ι o' l w') (hd : o' = .dead → ∀ a : Addr, a.block = l.blk → w'.frozen? a = false := by nofun) : Real ι (A.set i o') w' ∧ Ext ι A w ι (A.set i o') w' := by
  have objs : ∀ j p, (A.set i o').obj j = some p → (j = i ∧ p = o') ∨ (j ≠ i ∧ A.obj j = some p) := fun j p e => by
    rw [AHeap.obj_set] at e
    by_cases hj : j = i
    · rw [if_pos hj] at e; cases e; exact .inl ⟨hj, rfl⟩
    · rw [if_neg hj] at e; exact .inr ⟨hj, e⟩
  have ndead : ∀ (j : Nat) (p : AObj) (l' : Loc), j ≠ i → A.obj j = some p → ι j = some l' → ObjRel ι p l' w → ObjRel ι p l' w' := fun j p l' hj e k hr => by
    by_cases hd : p.owned = true ∨ ∃ es n z c, p = .cells true es n z c
    · refine hr.mono ι.le_refl (hb _ fun e' => hj ?_)
      exact (h.sep i j o p l l' hi e hw hd hl k e'.symm).symm
    · cases p with
      | dead => trivial
      | cells ro es n z c => cases ro <;> exact absurd (by simp [AObj.owned]) hd
      | _ => exact absurd (by simp [AObj.owned]) hd
  refine ⟨⟨?_, ?_, ?_⟩, ⟨ι.le_refl, Nat.le_refl _, by omega, ?_, ?_, ?_, hos, fun i es n z c e => by
    rcases objs i _ e with ⟨_, e'⟩ | ⟨_, e'⟩
    · exact absurd e'.symm (hro es n z c)
    · exact e', ?_⟩⟩
  · intro j p e
    rcases objs j p e with ⟨rfl, rfl⟩ | ⟨hj, e⟩
    · exact ⟨l, hl, ho⟩
    · obtain ⟨l', hl', hr⟩ := h.loc j p e
      exact ⟨l', hl', ndead j p l' hj e hl' hr⟩
  · intro j l' e; rw [hs]; exact h.dom j l' e
  · intro j k o₁ o₂ l₁ l₂ e₁ e₂ w₁ w₂ k₁ k₂ eb
    rcases objs j o₁ e₁ with ⟨hj, _⟩ | ⟨hj, e₁⟩ <;> rcases objs k o₂ e₂ with ⟨hk, _⟩ | ⟨hk, e₂⟩
    · rw [hj, hk]
    · exact h.sep _ _ o o₂ l₁ l₂ (hj ▸ hi) e₂ hw w₂ k₁ k₂ eb
    · exact h.sep _ _ o₁ o l₁ l₂ e₁ (hk ▸ hi) w₁ (.inl hw) k₁ k₂ eb
    · exact h.sep _ _ o₁ o₂ l₁ l₂ e₁ e₂ w₁ w₂ k₁ k₂ eb
  · intro j l' e e'; rw [e] at e'; cases e'
  · intro b _ hn
    exact hb b fun e => hn i o l hi hw hl e.symm
  · intro j p l' e hp k _
    rcases objs j p e with ⟨rfl, rfl⟩ | ⟨hj, e⟩
    · exact ⟨j, o, l', hi, hw, k, rfl⟩
    · exact ⟨j, p, l', e, hp, k, rfl⟩
  · intro a
    by_cases ha : a.block = l.blk
    · obtain ⟨l', hl', hr⟩ := h.loc i o hi
      rw [hl] at hl'; cases hl'
      rw [hr.cold hw a ha]
      by_cases hde : o' = .dead
      · exact hd hde a ha
      · refine ho.cold ?_ a ha
        cases o' with
        | dead => exact absurd rfl hde
        | cells ro es n z c => cases ro with
          | true => exact absurd rfl (hro es n z c)
          | false => rfl
        | _ => rfl
    · unfold World.frozen?
      rw [hb _ ha]

/-- A draw, or anything that leaves the memory alone. -/
theorem Real.world {ι : Inj} {A : AHeap} {w w' : World} (h : Real ι A w) (hh : w'.heap = w.heap) (hos : w'.os = w.os ∧ w'.output = w.output ∧ w'.tape = w.tape) :
    Real ι A w' ∧ Ext ι A w ι A w' := by
  refine ⟨⟨fun i o e => ?_, fun i l e => by rw [hh]; exact h.dom i l e, h.sep⟩, ⟨ι.le_refl, Nat.le_refl _, by rw [hh]; exact Nat.le_refl _, fun i l e e' => (by rw [e] at e'; cases e'), fun b _ _ => (by rw [hh]), fun i o l a b c _ => ⟨i, o, l, a, b, c, rfl⟩, hos, fun _ _ _ _ _ h => h, fun a => by unfold World.frozen?; rw [hh]⟩⟩
  obtain ⟨l, hl, hr⟩ := h.loc i o e
  exact ⟨l, hl, hr.mono ι.le_refl (by rw [hh])⟩

/-- Fewer objects. -/
theorem RealF.less {ι : Inj} {f g : Nat → Option AObj} {w : World} (h : RealF ι f w) (hg : ∀ i o, g i = some o → f i = some o) : RealF ι g w :=
  ⟨fun i o e => h.loc i o (hg i o e), h.dom, fun i j o o' l l' e e' => h.sep i j o o' l l' (hg i o e) (hg j o' e')⟩

/-- THE FRAME: what ran over a part ran over the whole. -/
theorem RealF.frame {ι ι' : Inj} {f f' g g' : Nat → Option AObj} {n n' m m' : Nat} {w w' : World} (h : RealF ι f w) (hg : ∀ i o, g i = some o → f i = some o) (hx : ExtF ι g n w ι' g' n' w') (hr : RealF ι' g' w')
    (hp : ∀ i o, g i = some o → g' i = some o) (hf' : ∀ i o, f' i = some o → f i = some o ∨ (g' i = some o ∧ g i = none ∧ ι i = none)) (hm : m ≤ m') (hmn : m ≤ n) (hnm : n' ≤ m') :
    RealF ι' f' w' ∧ ExtF ι f m w ι' f' m' w' := by
  -- an elder object lies as it lay
  have elder : ∀ i o, f i = some o → ∃ l, ι i = some l ∧ ι' i = some l ∧ ObjRel ι' o l w' := by
    intro i o e
    obtain ⟨l, hl, ho⟩ := h.loc i o e
    refine ⟨l, hl, hx.mono _ _ hl, ?_⟩
    cases hgi : g i with
    | some o' =>
      have e' := hg i o' hgi
      rw [e] at e'; cases e'
      obtain ⟨l', hl', ho'⟩ := hr.loc i o (hp i o hgi)
      rw [hx.mono _ _ hl] at hl'; cases hl'
      exact ho'
    | none =>
      by_cases hd : o.owned = true ∨ ∃ es n z c, o = .cells true es n z c
      · refine ho.mono hx.mono (hx.keep _ (h.dom _ _ hl) fun j o' l' ej hw ej' eb => ?_)
        have := h.sep j i o' o l' l (hg j o' ej) e hw hd ej' hl eb
        subst this
        rw [hgi] at ej; cases ej
      · cases o with
        | dead => trivial
        | cells ro es n z c => cases ro <;> exact absurd (by simp [AObj.owned]) hd
        | _ => exact absurd (by simp [AObj.owned]) hd
  -- a new one lies in a new block, or in one that the part had
  have newer : ∀ i o l j p l', f j = some p → ι j = some l' → g' i = some o → g i = none → ι i = none → ι' i = some l → l.blk = l'.blk → (o.owned = true ∨ ∃ es n z c, o = .cells true es n z c) →
      (p.owned = true ∨ ∃ es n z c, p = .cells true es n z c) → i = j := by
    intro i o l j p l' ej hl' ei gi ni hl eb ho hp'
    have hlt := h.dom _ _ hl'
    have hw : o.owned = true := by
      rcases ho with ho | ⟨es, n, z, c, rfl⟩
      · exact ho
      · have := hx.ro i es n z c ei
        rw [gi] at this; cases this
    obtain ⟨k, q, lk, hk, hq, hlk, e1⟩ := hx.own i o l ei hw hl (by omega)
    have hkj := h.sep k j q p lk l' (hg k q hk) ej hq hp' hlk hl' (e1.trans eb)
    subst hkj
    have hk' := hp k q hk
    exact hr.sep i k o q l lk ei hk' hw (.inl hq) hl (hx.mono _ _ hlk) e1.symm
  refine ⟨⟨?_, hr.dom, ?_⟩, ⟨hx.mono, hm, hx.size, ?_, ?_, ?_, hx.os, ?_, hx.fz⟩⟩
  · intro i o e
    rcases hf' i o e with e | ⟨e, _, _⟩
    · obtain ⟨l, _, h1, h2⟩ := elder i o e; exact ⟨l, h1, h2⟩
    · exact hr.loc i o e
  · intro i j o o' l l' e e' hw hw' hl hl' eb
    rcases hf' i o e with e1 | ⟨e1, g1, n1⟩ <;> rcases hf' j o' e' with e2 | ⟨e2, g2, n2⟩
    · obtain ⟨l1, k1, k2, _⟩ := elder i o e1
      obtain ⟨l2, k3, k4, _⟩ := elder j o' e2
      rw [hl] at k2; cases k2
      rw [hl'] at k4; cases k4
      exact h.sep i j o o' l l' e1 e2 hw hw' k1 k3 eb
    · obtain ⟨l1, k1, k2, _⟩ := elder i o e1
      rw [hl] at k2; cases k2
      exact (newer j o' l' i o l e1 k1 e2 g2 n2 hl' eb.symm hw' (.inl hw)).symm
    · obtain ⟨l2, k3, k4, _⟩ := elder j o' e2
      rw [hl'] at k4; cases k4
      exact newer i o l j o' l' e2 k3 e1 g1 n1 hl eb (.inl hw) hw'
    · exact hr.sep i j o o' l l' e1 e2 hw hw' hl hl' eb
  · intro i l e e'
    obtain ⟨a, b⟩ := hx.dom i l e e'
    omega
  · intro b hb hn
    exact hx.keep b hb fun i o l e => hn i o l (hg i o e)
  · intro i o l e hw hl hb
    rcases hf' i o e with e1 | ⟨e1, _, _⟩
    · obtain ⟨l1, k1, k2, _⟩ := elder i o e1
      rw [hl] at k2; cases k2
      exact ⟨i, o, l, e1, hw, k1, rfl⟩
    · obtain ⟨j, o', l', a, b, c, d⟩ := hx.own i o l e1 hw hl hb
      exact ⟨j, o', l', hg j o' a, b, c, d⟩
  · intro i es n z c e
    rcases hf' i _ e with e1 | ⟨e1, g1, _⟩
    · exact e1
    · have := hx.ro i es n z c e1
      rw [g1] at this; cases this

end Go.Abs

/- Cells: loads and stores of a world that an abstract heap tells. -/
namespace Go.Abs
open Go

theorem addr_add (b o n : Nat) : (Addr.add ⟨b, o, none⟩ n) = ⟨b, o + n, none⟩ := by
  unfold Addr.add; split
  · subst_vars; rfl
  · rfl

theorem cell_of_block {w : World} {b o : Nat} {C : Array Value} {t : TypeId} {fz : Nat × Nat} (h : w.heap[b]? = some (.cells C t fz)) : w.cell? ⟨b, o, none⟩ = C[o]? := by
  simp [World.cell?, h]
theorem frozen_of_block {w : World} {b o : Nat} {C : Array Value} {t : TypeId} (h : w.heap[b]? = some (.cells C t (0, 0))) : w.frozen? ⟨b, o, none⟩ = false := by
  simp [World.frozen?, h]
theorem shape_of_block {w : World} {b : Nat} {C : Array Value} {t : TypeId} {fz : Nat × Nat} (h : w.heap[b]? = some (.cells C t fz)) : w.shape? b = some (t, C.size) := by
  simp [World.shape?, h]
theorem frozen_of_block' {w : World} {a : Addr} {C : Array Value} {t : TypeId} (h : w.heap[a.block]? = some (.cells C t (0, 0))) : w.frozen? a = false := by
  simp [World.frozen?, h]

/-- What is known of the cells of an abstract object. -/
theorem Real.cells {ι : Inj} {A : AHeap} {w : World} (h : Real ι A w) {i : Nat} {ro : Bool} {es n : Nat} {z : List Value} {c : T Value} (hi : A.obj i = some (.cells ro es n z c)) :
    ∃ l, ι i = some l ∧ CellsRel ι ro es n z c l w := h.loc _ _ hi

/-- Loading cells. -/
theorem run_load_cells {P : Program} {ι : Inj} {ro : Bool} {es n : Nat} {z : List Value} {c : T Value} {l : Loc} {w : World} (h : CellsRel ι ro es n z c l w)
    {off m : Nat} (hm : off + m ≤ n) : ∃ vs, (∀ w', w'.heap = w.heap → (loadCells ⟨l.blk, l.sh + off, none⟩ m).run P w' = .ok vs w') ∧ VRs ι ((List.range m).map fun k => cellAt z c (off + k)).toArray vs := by
  obtain ⟨C, t, fz, hb, _, _, hn, hc⟩ := h
  refine ⟨_, fun w' hw => run_loadCells w' _ m (fun j => C.getD (l.sh + off + j) undef) (fun j hj => ?_), ?_⟩
  · rw [addr_add, cell_of_block (by rw [hw]; exact hb)]
    have : l.sh + off + j < C.size := by omega
    simp [Array.getD, this]
  · refine ⟨by simp, fun k h1 h2 => ?_⟩
    simp at h1
    obtain ⟨v, e, hv⟩ := hc (off + k) (by omega)
    simp
    have : l.sh + off + k < C.size := by omega
    have e' : C[l.sh + off + k] = v := by
      have h3 : l.sh + (off + k) = l.sh + off + k := by omega
      rw [h3] at e
      exact (Array.getElem?_eq_some_iff.1 e).2
    simp [this, e']; exact hv

theorem run_load_cell {P : Program} {ι : Inj} {ro : Bool} {es n : Nat} {z : List Value} {c : T Value} {l : Loc} {w : World} (h : CellsRel ι ro es n z c l w)
    {off : Nat} (hm : off < n) (m : Mode) : ∃ v, (load ⟨l.blk, l.sh + off, none⟩ m).run P w = .ok v w ∧ VR ι (cellAt z c off) v := by
  obtain ⟨C, t, fz, hb, _, _, hn, hc⟩ := h
  obtain ⟨v, e, hv⟩ := hc off hm
  exact ⟨v, by rw [run_load, cell_of_block hb, e], hv⟩

theorem oneCell_VR {ι : Inj} {v v' : Value} (h : VR ι v v') (hv : v.oneCell' = true) : v'.oneCell' = true := by
  cases h <;> first | rfl | (simp [Value.oneCell'] at hv)

/-- Storing cells into a block: the block's cells turn, nothing else. -/
theorem run_storeCells {P : Program} {b o : Nat} {t : TypeId} : ∀ (vs : List Value) (k : Nat) (w : World) (C : Array Value), w.heap[b]? = some (.cells C t (0, 0)) →
    o + k + vs.length ≤ C.size → (∀ v ∈ vs, v.oneCell' = true) →
    ∃ w' C', (storeCells ⟨b, o, none⟩ vs k).run P w = .ok () w' ∧ w'.heap.size = w.heap.size ∧ (∀ b', b' ≠ b → w'.heap[b']? = w.heap[b']?) ∧
      w'.heap[b]? = some (.cells C' t (0, 0)) ∧ C'.size = C.size ∧
      (∀ j, C'[j]? = if o + k ≤ j ∧ j < o + k + vs.length then vs[j - (o + k)]? else C[j]?) ∧ (w'.os = w.os ∧ w'.output = w.output ∧ w'.tape = w.tape)
  | [], k, w, C, h, _, _ => ⟨w, C, by simp [storeCells], rfl, fun _ _ => rfl, h, rfl, fun j => by simp; omega, rfl, rfl, rfl⟩
  | v :: vs, k, w, C, h, hs, hv => by
    simp only [List.length_cons] at hs
    have hk : o + k < C.size := by omega
    have hb : b < w.heap.size := (Array.getElem?_eq_some_iff.1 h).1
    let w1 := w.setCell ⟨b, o + k, none⟩ v
    have h1 : w1.heap[b]? = some (.cells (C.setIfInBounds (o + k) v) t (0, 0)) := by
      simp only [w1, World.setCell, Array.getElem?_modify, if_true, h]; simp
    have h2 : ∀ b', b' ≠ b → w1.heap[b']? = w.heap[b']? := fun b' hb' => by
      simp only [w1, World.setCell, Array.getElem?_modify]; rw [if_neg (fun e => hb' e.symm)]
    obtain ⟨w', C', r1, r2, r3, r4, r5, r6, r7⟩ := run_storeCells (P := P) (b := b) (o := o) vs (k + 1) w1 _ h1 (by simp; omega) (fun x hx => hv x (by simp [hx]))
    refine ⟨w', C', ?_, ?_, ?_, r4, ?_, ?_, ?_⟩
    · simp only [storeCells, addr_add, Sem.run_bind]
      rw [run_store P w _ v _ (hv v (by simp)), cell_of_block h]
      simp only [Array.getElem?_eq_getElem hk, frozen_of_block h]
      simpa using r1
    · rw [r2]; simp [w1]
    · intro b' hb'; rw [r3 b' hb', h2 b' hb']
    · rw [r5]; simp
    · intro j
      rw [r6 j]
      by_cases hj : o + (k + 1) ≤ j ∧ j < o + (k + 1) + vs.length
      · rw [if_pos hj, if_pos (by simp; omega)]
        rw [show j - (o + k) = (j - (o + (k + 1))) + 1 from by omega]; simp
      · rw [if_neg hj]
        by_cases e : j = o + k
        · subst e; rw [if_pos (by simp)]; simp [hk]
        · rw [if_neg (by simp; omega), Array.getElem?_setIfInBounds]; rw [if_neg (fun h => e h.symm)]
    · exact r7

/-- Cells of an owned object are stored to. -/
theorem Real.store {P : Program} {ι : Inj} {A : AHeap} {w : World} (h : Real ι A w) {i : Nat} {es n : Nat} {z : List Value} {c : T Value} (hi : A.obj i = some (.cells false es n z c))
    {l : Loc} (hl : ι i = some l) {off : Nat} {vs vs' : List Value} (hn : off + vs.length ≤ n) (hv : VRl ι vs vs') (h1 : ∀ v ∈ vs, v.oneCell' = true) :
    ∃ w', (storeCells ⟨l.blk, l.sh + off, none⟩ vs').run P w = .ok () w' ∧ Real ι (A.set i (.cells false es n z (c.putList off vs))) w' ∧
      Ext ι A w ι (A.set i (.cells false es n z (c.putList off vs))) w' := by
  obtain ⟨l', hl', hr⟩ := h.cells hi
  rw [hl] at hl'; cases hl'
  obtain ⟨C, t, fz, hb, hf, hro, hs, hc⟩ := hr
  obtain ⟨rfl, hes⟩ := hf rfl
  obtain ⟨hlim, _⟩ := hro
  obtain ⟨w', C', r1, r2, r3, r4, r5, r6, r7⟩ := run_storeCells (P := P) (b := l.blk) (o := l.sh + off) vs' 0 w C hb (by rw [← hv.1]; omega)
    (fun v hm => by
      obtain ⟨k, hk, rfl⟩ := List.getElem_of_mem hm
      exact oneCell_VR (hv.2 k (hv.1 ▸ hk) hk) (h1 _ (by simp)))
  refine ⟨w', r1, h.turn hi rfl hl r2 r3 r7 (by simp) ?_⟩
  refine ⟨C', t, (0, 0), r4, fun _ => ⟨rfl, hes⟩, ⟨by rw [r5]; exact hlim, by simp⟩, by omega, fun k hk => ?_⟩
  rw [r6]
  by_cases hin : off ≤ k ∧ k < off + vs.length
  · rw [if_pos (by rw [← hv.1]; omega)]
    have e1 : l.sh + k - (l.sh + off + 0) = k - off := by omega
    rw [e1]
    have hlt : k - off < vs.length := by omega
    refine ⟨vs'[k - off]'(hv.1 ▸ hlt), by simp, ?_⟩
    have : cellAt z (c.putList off vs) k = vs[k - off] := by
      unfold cellAt; rw [T.get_putList, if_pos hin]; simp [hlt]
    rw [this]; exact hv.2 _ _ _
  · rw [if_neg (by rw [← hv.1]; omega)]
    obtain ⟨v, e, hv'⟩ := hc k hk
    refine ⟨v, e, ?_⟩
    have : cellAt z (c.putList off vs) k = cellAt z c k := by
      unfold cellAt; rw [T.get_putList, if_neg hin]
    rw [this]; exact hv'

/-- A new row of cells. -/
theorem Real.newRow {ι : Inj} {A : AHeap} {w : World} (h : Real ι A w) (hnew : ι A.next = none) (t : TypeId) (es : Nat) {n : Nat} {z : List Value} {c : T Value} {C : Array Value} (hs : n ≤ C.size)
    (hv : ∀ k, k < n → ∃ v, C[k]? = some v ∧ VR ι (cellAt z c k) v) :
    Real (ι.put A.next ⟨w.heap.size, 0, C.size, es⟩) (A.push (.cells false es n z c)) { w with heap := w.heap.push (.cells C t) } ∧
    Ext ι A w (ι.put A.next ⟨w.heap.size, 0, C.size, es⟩) (A.push (.cells false es n z c)) { w with heap := w.heap.push (.cells C t) } := by
  refine h.push hnew _ _ _ rfl ⟨C, t, (0, 0), by simp, fun _ => ⟨rfl, rfl⟩, ⟨rfl, by simp⟩, by simpa using hs, fun k hk => ?_⟩
  obtain ⟨v, e, hv'⟩ := hv k hk
  exact ⟨v, by simpa using e, hv'.mono (Inj.le_put hnew)⟩

theorem cellAt_ofList (z l : List Value) (k : Nat) (h : k < l.length) : cellAt z (T.ofList l) k = l[k] := by
  unfold cellAt; rw [T.get_ofList]; simp [h]
theorem cellAt_e (z : List Value) (k : Nat) (h : k < z.length) : cellAt z .e k = z[k] := by
  unfold cellAt; rw [T.get_e]; simp [List.getD, Nat.mod_eq_of_lt h, h]

end Go.Abs

/- Operations of the abstract machine that make, load and store; each with what it is in a world. -/
namespace Go.Abs
open Go

structure Env (P : Program) where
  und : TypeId → Option TypeDesc
  inf : TypeId → Option TypeInfo
  fns : FuncId → Option Func
  egt : TypeId → Bool
  hld : TypeId → Bool
  und_ok : ∀ t d, und t = some d → P.underlying t = some d
  inf_ok : ∀ t d, inf t = some d → P.info? t = some d
  fns_ok : ∀ f d, fns f = some d → P.funcs[f]? = some d
  egt_ok : ∀ t, egt t = true → P.eqGuardType P.depth t = false
  hld_ok : ∀ t, hld t = true → P.stoodInHeld t = false

variable {P : Program}

/-- A computation of the model's comes to what the abstract heap says. -/
def SimV (P : Program) (s : Sem Value) (ι : Inj) (A : AHeap) (w : World) (v : Value) (A' : AHeap) : Prop :=
  ∃ ι' w' v', s.run P w = .ok v' w' ∧ VR ι' v v' ∧ Real ι' A' w' ∧ Ext ι A w ι' A' w'

/-- .. and one that leaves the heap alone. -/
theorem SimV.pure {s : Sem Value} {ι : Inj} {A : AHeap} {w : World} {v v' : Value} (hr : Real ι A w) (h : s.run P w = .ok v' w) (hv : VR ι v v') : SimV P s ι A w v A :=
  ⟨ι, w, v', h, hv, hr, Ext.refl _ _ _⟩

section types
variable {w : World}
theorem run_underlying {t : TypeId} {d : TypeDesc} (h : P.underlying t = some d) : (underlying t).run P w = .ok d w := by simp [underlying, h]
theorem run_typeInfo {t : TypeId} {i : TypeInfo} (h : P.info? t = some i) : (typeInfo t).run P w = .ok i w := by simp [typeInfo, h]
theorem run_sizeOf {t : TypeId} {i : TypeInfo} (h : P.info? t = some i) : (sizeOf t).run P w = .ok i.size w := by simp [sizeOf, run_typeInfo h]
theorem run_zeroValue {t : TypeId} {i : TypeInfo} {z : Value} (h : P.info? t = some i) (hz : i.zero = some z) : (zeroValue t).run P w = .ok z w := by
  simp [zeroValue, run_typeInfo h, hz]
def aggD : TypeDesc → Bool
  | .struct _ | .array _ _ => true
  | _ => false
theorem run_isAgg {t : TypeId} {d : TypeDesc} (h : P.underlying t = some d) : (isAgg t).run P w = .ok (aggD d) w := by
  cases d <;> simp [isAgg, run_underlying h, aggD]
end types

/-! ### alloc, box, buildSlice -/
def aAlloc (E : Env P) (t : TypeId) (A : AHeap) : Option (Value × AHeap) :=
  match E.inf t with
  | none => none
  | some i => match i.zero with
    | none => none
    | some z => if z.cells.toList.all flat1 then some (.pointer (some ⟨A.next, 0, none⟩), A.push (.cells false 0 z.cells.size z.cells.toList .e)) else none

theorem aAlloc_sim {E : Env P} {t : TypeId} {A A' : AHeap} {v : Value} {ι : Inj} {w : World} (h : aAlloc E t A = some (v, A')) (hr : Real ι A w) (hF : Fresh ι A A') :
    SimV P (Instr.alloc t true (.tuple #[])) ι A w v A' := by
  unfold aAlloc at h
  split at h
  · cases h
  rename_i i hi
  split at h
  · cases h
  rename_i z hz
  split at h
  · rename_i hf
    cases h
    have hp := E.inf_ok _ _ hi
    obtain ⟨h1, h2⟩ := hr.newRow (hF _ (Nat.le_refl _) (by simp)) t 0 (n := z.cells.size) (z := z.cells.toList) (c := .e) (C := z.cells) (Nat.le_refl _) (fun k hk => ⟨z.cells[k], by simp [hk], by
      rw [cellAt_e _ _ (by simpa using hk)]
      refine flat1_refl ?_
      simp only [List.all_eq_true] at hf
      exact hf _ (by simp)⟩)
    refine ⟨_, _, .pointer (some ⟨w.heap.size, 0, none⟩), ?_, ?_, h1, h2⟩
    · simp [Instr.alloc, run_zeroValue hp hz, newVar, newRow]
    · exact VR.ptr (l := ⟨w.heap.size, 0, z.cells.size, 0⟩) (Inj.put_same _ _ _)
  · cases h

def aBox (v : Value) (A : AHeap) : Value × AHeap := (.pointer (some ⟨A.next, 0, none⟩), A.push (.cells false 0 v.cells.size [] (T.ofList v.cells.toList)))

theorem aBox_sim {t : TypeId} {A : AHeap} {v v' : Value} {ι : Inj} {w : World} (hr : Real ι A w) (hF : ι A.next = none) (hv : VR ι v v') : SimV P (Instr.box t v') ι A w (aBox v A).1 (aBox v A).2 := by
  have hc := hv.cells
  obtain ⟨h1, h2⟩ := hr.newRow hF t 0 (n := v.cells.size) (z := []) (c := T.ofList v.cells.toList) (C := v'.cells) (by rw [hc.1]; exact Nat.le_refl _) (fun k hk => ⟨v'.cells[k]'(hc.1 ▸ hk), by simp, by
    rw [cellAt_ofList _ _ _ (by simpa using hk)]
    simpa using hc.2 k hk (hc.1 ▸ hk)⟩)
  refine ⟨_, _, .pointer (some ⟨w.heap.size, 0, none⟩), ?_, ?_, h1, h2⟩
  · simp [Instr.box, newVar, newRow]
  · exact VR.ptr (l := ⟨w.heap.size, 0, v'.cells.size, 0⟩) (Inj.put_same _ _ _)

theorem VRs.fold_set {ι : Inj} {off : Nat} : ∀ {vs vs' : List (Value × Nat)} {a a' : Array Value}, vs.length = vs'.length →
    (∀ i (h : i < vs.length) (h' : i < vs'.length), VR ι vs[i].1 vs'[i].1 ∧ vs[i].2 = vs'[i].2) → VRs ι a a' →
    VRs ι (vs.foldl (fun cs (c, j) => cs.setIfInBounds (off + j) c) a) (vs'.foldl (fun cs (c, j) => cs.setIfInBounds (off + j) c) a')
  | [], [], _, _, _, _, h => h
  | [], _ :: _, _, _, hl, _, _ => by simp at hl
  | _ :: _, [], _, _, hl, _, _ => by simp at hl
  | (x, j) :: vs, (x', j') :: vs', a, a', hl, hv, h => by
    simp only [List.foldl_cons]
    have h0 := hv 0 (by simp) (by simp)
    simp at h0
    obtain ⟨hx, rfl⟩ := h0
    exact VRs.fold_set (by simpa using hl) (fun i h1 h2 => hv (i + 1) (Nat.succ_lt_succ h1) (Nat.succ_lt_succ h2)) (h.setIfInBounds hx _)

/-- The parts of a composite literal. -/
def PR (ι : Inj) (l l' : List (Nat × Value)) : Prop := l.length = l'.length ∧ ∀ i (h : i < l.length) (h' : i < l'.length), l[i].1 = l'[i].1 ∧ VR ι l[i].2 l'[i].2

theorem fill_sim {ι : Inj} {place : Nat → Option (Nat × Nat)} : ∀ {ps ps' : List (Nat × Value)} {a a' cells : Array Value}, PR ι ps ps' → VRs ι a a' →
    Instr.fill place a ps = some cells → ∃ cells', Instr.fill place a' ps' = some cells' ∧ VRs ι cells cells'
  | [], [], a, a', cells, _, h, e => by simp [Instr.fill] at e; subst e; exact ⟨a', rfl, h⟩
  | [], _ :: _, _, _, _, hp, _, _ => by have := hp.1; simp at this
  | _ :: _, [], _, _, _, hp, _, _ => by have := hp.1; simp at this
  | (i, v) :: ps, (i', v') :: ps', a, a', cells, hp, h, e => by
    have h0 := hp.2 0 (by simp) (by simp)
    simp at h0
    obtain ⟨rfl, hv⟩ := h0
    simp only [Instr.fill] at e ⊢
    cases hpl : place i with
    | none => rw [hpl] at e; simp at e
    | some os =>
      obtain ⟨off, size⟩ := os
      rw [hpl] at e
      simp only at e ⊢
      have hc := hv.cells
      rw [← hc.1, ← h.1]
      split at e
      · cases e
      · rename_i hn
        rw [if_neg hn]
        refine fill_sim ⟨by simpa using hp.1, fun j h1 h2 => hp.2 (j + 1) (Nat.succ_lt_succ h1) (Nat.succ_lt_succ h2)⟩ ?_ e
        rw [← Array.foldl_toList, ← Array.foldl_toList]
        refine VRs.fold_set (by simp [hc.1]) (fun j h1 h2 => ?_) h
        simp at h1 h2 ⊢
        exact hc.2 j h1 h2

/-- Values of operands, all of them. -/
def evParts (ρ : Operand → Option Value) : List (Nat × Operand) → Option (List (Nat × Value))
  | [] => some []
  | (i, x) :: r => match ρ x with
    | none => none
    | some v => match evParts ρ r with
      | none => none
      | some l => some ((i, v) :: l)

theorem evParts_sim {ι : Inj} {ρ : Operand → Option Value} {σ : Operand → Value} (hρ : ∀ x v, ρ x = some v → VR ι v (σ x)) : ∀ {ps : List (Nat × Operand)} {l : List (Nat × Value)},
    evParts ρ ps = some l → PR ι l (ps.map fun (i, x) => (i, σ x))
  | [], l, h => by simp [evParts] at h; subst h; exact ⟨rfl, fun i h => by simp at h⟩
  | (i, x) :: r, l, h => by
    simp only [evParts] at h
    split at h
    · cases h
    rename_i v hv
    split at h
    · cases h
    rename_i l' hl
    cases h
    have ih := evParts_sim hρ hl
    refine ⟨by simpa using ih.1, fun j h1 h2 => ?_⟩
    cases j with
    | zero => exact ⟨rfl, hρ _ _ hv⟩
    | succ j => exact ih.2 j (Nat.lt_of_succ_lt_succ h1) (Nat.lt_of_succ_lt_succ h2)

def placesOf (E : Env P) : List Field → Option (List (Nat × Nat))
  | [] => some []
  | f :: r => match E.inf f.type with
    | none => none
    | some i => match placesOf E r with
      | none => none
      | some l => some ((f.offset, i.size) :: l)

theorem run_places {E : Env P} {w : World} : ∀ {fs : List Field} {l : List (Nat × Nat)}, placesOf E fs = some l →
    (fs.mapM (fun f => Prod.mk f.offset <$> sizeOf f.type)).run P w = .ok l w
  | [], l, h => by simp [placesOf] at h; subst h; simp
  | f :: r, l, h => by
    simp only [placesOf] at h
    split at h
    · cases h
    rename_i i hi
    split at h
    · cases h
    rename_i l' hl
    cases h
    simp [List.mapM_cons, run_sizeOf (E.inf_ok _ _ hi), run_places hl]

/-- A composite value. -/
def aBuild (E : Env P) (t : TypeId) (parts : List (Nat × Value)) : Option Value :=
  match E.inf t, E.und t with
  | some i, some (.struct fields) => match i.zero, placesOf E fields.toList with
    | some z, some l => if z.cells.toList.all flat1 then (match Instr.fill (fun k => l[k]?) z.cells parts with | some cells => some (.agg cells) | none => none) else none
    | _, _ => none
  | some i, some (.array _ elem) => match i.zero, E.inf elem with
    | some z, some ie => if z.cells.toList.all flat1 then (match Instr.fill (fun k => some (k * ie.size, ie.size)) z.cells parts with | some cells => some (.agg cells) | none => none) else none
    | _, _ => none
  | _, _ => none

theorem flat1_VRs {ι : Inj} {a : Array Value} (h : a.toList.all flat1 = true) : VRs ι a a :=
  ⟨rfl, fun i h1 _ => flat1_refl (by simp only [List.all_eq_true] at h; exact h _ (by simp))⟩

theorem aBuild_sim {E : Env P} {t : TypeId} {ps ps' : List (Nat × Value)} {v : Value} {ι : Inj} {w : World} (h : aBuild E t ps = some v) (hp : PR ι ps ps') :
    ∃ v', (Instr.build t ps'.toArray).run P w = .ok v' w ∧ VR ι v v' := by
  unfold aBuild at h
  split at h
  · rename_i i fields hi hu
    split at h
    · rename_i z l hz hl
      split at h
      · rename_i hf
        split at h
        · rename_i cells hfill
          cases h
          obtain ⟨cells', hfill', hv⟩ := fill_sim hp (flat1_VRs (ι := ι) hf) hfill
          refine ⟨.agg cells', ?_, .agg hv.1 hv.2⟩
          have hm : (fields.mapM (fun f => Prod.mk f.offset <$> sizeOf f.type)).run P w = .ok l.toArray w := by
            rw [← Array.toArray_toList (xs := fields), List.mapM_toArray, Sem.run_map, run_places hl]
            rfl
          simp [Instr.build, run_zeroValue (E.inf_ok _ _ hi) hz, run_underlying (E.und_ok _ _ hu), hm, hfill']
        · cases h
      · cases h
    · cases h
  · rename_i i n elem hi hu
    split at h
    · rename_i z ie hz hie
      split at h
      · rename_i hf
        split at h
        · rename_i cells hfill
          cases h
          obtain ⟨cells', hfill', hv⟩ := fill_sim hp (flat1_VRs (ι := ι) hf) hfill
          exact ⟨.agg cells', by simp [Instr.build, run_zeroValue (E.inf_ok _ _ hi) hz, run_underlying (E.und_ok _ _ hu), run_sizeOf (E.inf_ok _ _ hie), hfill'], .agg hv.1 hv.2⟩
        · cases h
      · cases h
    · cases h
  · cases h

end Go.Abs

/- Operations of the abstract machine: rows, addresses, loads, stores, parts. -/
namespace Go.Abs
open Go
variable {P : Program}

theorem VRl.map_range {ι : Inj} {n : Nat} {f g : Nat → Value} (h : ∀ k, k < n → VR ι (f k) (g k)) : VRl ι ((List.range n).map f) ((List.range n).map g) :=
  ⟨by simp, fun i h1 _ => by simp at h1 ⊢; exact h i h1⟩

/-! ### A slice made of parts -/
def zeroCell (z : Value) (k : Nat) : Value := z.cells.toList.getD (k % z.cells.toList.length) undef

def aBuildSlice (E : Env P) (t : TypeId) (len : Nat) (parts : List (Nat × Value)) (A : AHeap) : Option (Value × AHeap) :=
  match E.und t with
  | some (.slice elem) => match E.inf elem with
    | some i => match i.zero with
      | some z => if len * i.size ≤ 2 ^ 24 && z.cells.toList.all flat1 && (0 < z.cells.size) then
          (match Instr.fill (fun k => some (k * i.size, i.size)) ((List.range (len * i.size)).map (zeroCell z)).toArray parts with
          | some cells => if cells.size = len * i.size then some (.slice (some ⟨A.next, 0, none⟩) len len, A.push (.cells false i.size (len * i.size) [] (T.ofList cells.toList))) else none
          | none => none) else none
      | none => none
    | none => none
  | _ => none

theorem zeroCell_VR {ι : Inj} {z : Value} (h : z.cells.toList.all flat1 = true) (h0 : 0 < z.cells.size) (k : Nat) : VR ι (zeroCell z k) (zeroCell z k) := by
  have hlt : k % z.cells.toList.length < z.cells.toList.length := Nat.mod_lt _ (by simpa using h0)
  unfold zeroCell
  refine flat1_refl ?_
  simp only [List.all_eq_true] at h
  rw [List.getD_eq_getElem?_getD, List.getElem?_eq_getElem hlt]
  exact h _ (by simp)

theorem zeroCell_eq (z : Value) (h0 : 0 < z.cells.size) (k : Nat) : z.cells[k % z.cells.size]! = zeroCell z k := by
  have hlt : k % z.cells.size < z.cells.size := Nat.mod_lt _ h0
  have hlt' : k % z.cells.toList.length < z.cells.toList.length := by simpa using hlt
  unfold zeroCell
  rw [List.getD_eq_getElem?_getD, List.getElem?_eq_getElem hlt']
  simp [getElem!_pos, hlt]

theorem aBuildSlice_sim {E : Env P} {t : TypeId} {len : Nat} {ps ps' : List (Nat × Value)} {A A' : AHeap} {v : Value} {ι : Inj} {w : World}
    (h : aBuildSlice E t len ps A = some (v, A')) (hp : PR ι ps ps') (hr : Real ι A w) (hF : Fresh ι A A') : SimV P (Instr.buildSlice t len ps'.toArray) ι A w v A' := by
  unfold aBuildSlice at h
  split at h
  · rename_i elem hu
    split at h
    · rename_i i hi
      split at h
      · rename_i z hz
        split at h
        · rename_i hc
          simp only [Bool.and_eq_true, decide_eq_true_eq] at hc
          obtain ⟨⟨h24, hf⟩, h0⟩ := hc
          split at h
          · rename_i cells hfill
            split at h
            · rename_i hs
              cases h
              have hz0 : VRs ι ((List.range (len * i.size)).map (zeroCell z)).toArray ((List.range (len * i.size)).map (zeroCell z)).toArray :=
                (VRl.map_range fun k _ => zeroCell_VR hf h0 k).to_array
              obtain ⟨cells', hfill', hv⟩ := fill_sim hp hz0 hfill
              obtain ⟨r1, r2⟩ := hr.newRow (hF _ (Nat.le_refl _) (by simp)) elem i.size (n := len * i.size) (z := []) (c := T.ofList cells.toList) (C := cells') (by rw [← hv.1, hs]; exact Nat.le_refl _)
                (fun k hk => ⟨cells'[k]'(hv.1 ▸ hs ▸ hk), by simp, by
                  rw [cellAt_ofList _ _ _ (by simp; omega)]
                  simpa using hv.2 k (by omega) (hv.1 ▸ hs ▸ hk)⟩)
              refine ⟨_, _, .slice (some ⟨w.heap.size, 0, none⟩) len len, ?_, ?_, r1, r2⟩
              · have e1 : ∀ (zc : Array Value), zc = z.cells → (Array.range (len * i.size)).map (fun k => zc[k % zc.size]!) = ((List.range (len * i.size)).map (zeroCell z)).toArray := by
                  rintro _ rfl
                  apply Array.ext'
                  simp only [Array.toList_map, Array.toList_range]
                  exact List.map_congr_left fun k _ => zeroCell_eq z h0 k
                have e2 : ¬ (16777216 < len * i.size) := by omega
                by_cases hn : len * i.size = 0
                · have hf0 : ∀ (q : Array Value), (Array.range 0).map (fun k => q[k % q.size]!) = ((List.range 0).map (zeroCell z)).toArray := fun q => by simp
                  rw [hn] at hfill'
                  simp only [Instr.buildSlice, Sem.run_bind, run_underlying (E.und_ok _ _ hu), Result.andThen_ok, run_sizeOf (E.inf_ok _ _ hi), hn]
                  simp only [List.range_zero, List.map_nil] at hfill'
                  have h00 : Array.range 0 = #[] := rfl
                  simp [newRow, h00, hfill']
                · have e3 := e1 z.cells rfl
                  simp only [Instr.buildSlice, Sem.run_bind, run_underlying (E.und_ok _ _ hu), Result.andThen_ok, run_sizeOf (E.inf_ok _ _ hi)]
                  rw [if_neg (by omega), if_neg hn]
                  simp only [Sem.run_bind, run_zeroValue (E.inf_ok _ _ hi) hz, Result.andThen_ok, Sem.run_pure, e3, hfill']
                  simp [newRow]
              · exact VR.slice (l := ⟨w.heap.size, 0, cells'.size, i.size⟩) (Inj.put_same _ _ _) (Nat.le_refl _) (Nat.le_refl _) (by simp; rw [← hv.1, hs]; exact Nat.le_refl _)
            · cases h
          · cases h
        · cases h
      · cases h
    · cases h
  · cases h

/-! ### Loads and stores -/
def aLoad (E : Env P) (t : TypeId) (v : Value) (A : AHeap) : Option Value :=
  match v with
  | .pointer (some ⟨i, off, none⟩) => match A.obj i with
    | some (.cells _ _ n z c) => match E.und t with
      | some d => if aggD d then (match E.inf t with
          | some info => if off + info.size ≤ n then some (.agg ((List.range info.size).map fun k => cellAt z c (off + k)).toArray) else none
          | none => none)
        else if off < n then some (cellAt z c off) else none
      | none => none
    | _ => none
  | _ => none

theorem VR.ptr_inv {ι : Inj} {i off : Nat} {v' : Value} (h : VR ι (.pointer (some ⟨i, off, none⟩)) v') : ∃ l, ι i = some l ∧ v' = .pointer (some ⟨l.blk, l.sh + off, none⟩) := by
  cases h with
  | ptr h => exact ⟨_, h, rfl⟩

theorem aLoad_sim {E : Env P} {t : TypeId} {A : AHeap} {p p' v : Value} {ι : Inj} {w : World} (h : aLoad E t p A = some v) (hp : VR ι p p') (hr : Real ι A w) :
    ∃ v', (Instr.loadAt t p').run P w = .ok v' w ∧ VR ι v v' := by
  unfold aLoad at h
  split at h
  · rename_i i off
    obtain ⟨l, hl, rfl⟩ := hp.ptr_inv
    split at h
    · rename_i ro es n z c hi
      obtain ⟨l', hl', hc⟩ := hr.cells hi
      rw [hl] at hl'; cases hl'
      split at h
      · rename_i d hd
        split at h
        · rename_i ha
          split at h
          · rename_i info hinf
            split at h
            · rename_i hn
              cases h
              obtain ⟨vs, hv, hvs⟩ := run_load_cells (P := P) hc hn
              exact ⟨.agg vs, by simp [Instr.loadAt, Instr.sureAddr, loadVar, run_isAgg (E.und_ok _ _ hd), ha, run_sizeOf (E.inf_ok _ _ hinf), hv w rfl], .agg hvs.1 hvs.2⟩
            · cases h
          · cases h
        · rename_i ha
          split at h
          · rename_i hn
            cases h
            obtain ⟨v, hv, hvv⟩ := run_load_cell (P := P) hc hn .plain
            refine ⟨v, ?_, hvv⟩
            simp only [Instr.loadAt, Instr.sureAddr, loadVar, Sem.run_bind, Sem.run_pure, Result.andThen_ok, run_isAgg (E.und_ok _ _ hd), ha, if_false, Bool.false_eq_true]
            exact hv
          · cases h
      · cases h
    · cases h
  · cases h

def aStore (E : Env P) (t : TypeId) (p v : Value) (A : AHeap) : Option AHeap :=
  match p with
  | .pointer (some ⟨i, off, none⟩) => match A.obj i with
    | some (.cells false es n z c) => match E.inf t with
      | some info => if v.cells.size = info.size && off + info.size ≤ n && v.cells.toList.all Value.oneCell' then some (A.set i (.cells false es n z (c.putList off v.cells.toList))) else none
      | none => none
    | _ => none
  | _ => none

theorem aStore_sim {E : Env P} {t : TypeId} {A A' : AHeap} {p p' v v' : Value} {ι : Inj} {w : World} (h : aStore E t p v A = some A') (hp : VR ι p p') (hv : VR ι v v') (hr : Real ι A w) :
    ∃ w', (Instr.storeAt t p' v').run P w = .ok () w' ∧ Real ι A' w' ∧ Ext ι A w ι A' w' := by
  unfold aStore at h
  split at h
  · rename_i i off
    obtain ⟨l, hl, rfl⟩ := hp.ptr_inv
    split at h
    · rename_i es n z c hi
      split at h
      · rename_i info hinf
        split at h
        · rename_i hc
          simp only [Bool.and_eq_true, decide_eq_true_eq, List.all_eq_true] at hc
          obtain ⟨⟨h1, h2⟩, h3⟩ := hc
          cases h
          have hcells := hv.cells
          obtain ⟨w', r1, r2, r3⟩ := hr.store (P := P) hi hl (off := off) (vs := v.cells.toList) (vs' := v'.cells.toList) (by simp; omega) hcells.to_list h3
          refine ⟨w', ?_, r2, r3⟩
          have e1 : v'.cells.size = info.size := by rw [← hcells.1, h1]
          simp only [Instr.storeAt, Instr.sureAddr, storeVar, Sem.run_bind, Sem.run_pure, Result.andThen_ok, run_sizeOf (E.inf_ok _ _ hinf), e1, ne_eq, not_true, if_false]
          exact r1
        · cases h
      · cases h
    · cases h
  · cases h

/-! ### Addresses -/
def aFieldAddr (E : Env P) (s : TypeId) (v : Value) (f : Nat) : Option Value :=
  match E.und s with
  | some (.struct fields) => match fields[f]? with
    | some fd => match E.inf fd.type with
      | some info => if info.size = 0 then none else match v with
        | .pointer (some ⟨i, off, none⟩) => some (.pointer (some ⟨i, off + fd.offset, none⟩))
        | _ => none
      | none => none
    | none => none
  | _ => none

theorem aFieldAddr_sim {E : Env P} {s : TypeId} {f : Nat} {p p' v : Value} {ι : Inj} {w : World} (h : aFieldAddr E s p f = some v) (hp : VR ι p p') :
    ∃ v', (Instr.fieldAt s p' f).run P w = .ok v' w ∧ VR ι v v' := by
  unfold aFieldAddr at h
  split at h
  · rename_i fields hu
    split at h
    · rename_i fd hfd
      split at h
      · rename_i info hinf
        split at h
        · cases h
        · rename_i hs
          split at h
          · rename_i i off
            cases h
            obtain ⟨l, hl, rfl⟩ := hp.ptr_inv
            refine ⟨.pointer (some ⟨l.blk, l.sh + (off + fd.offset), none⟩), ?_, .ptr hl⟩
            simp [Instr.fieldAt, run_underlying (E.und_ok _ _ hu), hfd, Instr.sureAddr, fieldPlace, run_sizeOf (E.inf_ok _ _ hinf), hs, addr_add, Nat.add_assoc]
          · cases h
      · cases h
    · cases h
  · cases h

/-- A part of an aggregate. -/
def aPart (E : Env P) (t : TypeId) (cs : Array Value) (off : Nat) : Option Value :=
  match E.und t with
  | some d => if aggD d then (match E.inf t with
      | some info => some (.agg (cs.extract off (off + info.size)))
      | none => none)
    else cs[off]?
  | none => none

theorem aPart_sim {E : Env P} {t : TypeId} {cs cs' : Array Value} {off : Nat} {v : Value} {ι : Inj} {w : World} (h : aPart E t cs off = some v) (hc : VRs ι cs cs') :
    ∃ v', (part t cs' off).run P w = .ok v' w ∧ VR ι v v' := by
  unfold aPart at h
  split at h
  · rename_i d hd
    split at h
    · rename_i ha
      split at h
      · rename_i info hinf
        cases h
        have he := hc.extract off (off + info.size)
        exact ⟨.agg (cs'.extract off (off + info.size)), by simp [part, run_isAgg (E.und_ok _ _ hd), ha, run_sizeOf (E.inf_ok _ _ hinf)], .agg he.1 he.2⟩
      · cases h
    · rename_i ha
      obtain ⟨v', hv', hvv⟩ := hc.get? h
      exact ⟨v', by simp [part, run_isAgg (E.und_ok _ _ hd), ha, hv'], hvv⟩
  · cases h

def aField (E : Env P) (t : TypeId) (v : Value) (f : Nat) : Option Value :=
  match E.und t with
  | some (.struct fields) => match fields[f]? with
    | some fd => match v with
      | .agg cs => aPart E fd.type cs fd.offset
      | _ => none
    | none => none
  | _ => none

theorem aField_sim {E : Env P} {t : TypeId} {f : Nat} {x x' v : Value} {ι : Inj} {w : World} (h : aField E t x f = some v) (hx : VR ι x x') :
    ∃ v', (Instr.field t x' f).run P w = .ok v' w ∧ VR ι v v' := by
  unfold aField at h
  split at h
  · rename_i fields hu
    split at h
    · rename_i fd hfd
      split at h
      · cases hx with
        | agg hs hh =>
          obtain ⟨v', h1, h2⟩ := aPart_sim (w := w) h ⟨hs, hh⟩
          exact ⟨v', by simp [Instr.field, run_underlying (E.und_ok _ _ hu), hfd, asAgg, h1], h2⟩
      · cases h
    · cases h
  · cases h

def aIndexAddr (E : Env P) (t : TypeId) (x ix : Value) : Option Value :=
  match ix with
  | .int _ k => if k < 0 then none else match E.und t, x with
    | some (.array len elem), .pointer (some ⟨i, off, none⟩) => match E.inf elem with
      | some info => if k.toNat < len then some (.pointer (some ⟨i, off + k.toNat * info.size, none⟩)) else none
      | none => none
    | some (.slice elem), .slice (some ⟨i, off, none⟩) len _ => match E.inf elem with
      | some info => if k.toNat < len then some (.pointer (some ⟨i, off + k.toNat * info.size, none⟩)) else none
      | none => none
    | _, _ => none
  | _ => none

theorem VR.int_inv {ι : Inj} {k : IntKind} {n : Int} {v' : Value} (h : VR ι (.int k n) v') : v' = .int k n := by cases h; rfl

theorem aIndexAddr_sim {E : Env P} {t : TypeId} {x x' ix ix' v : Value} {ι : Inj} {w : World} (h : aIndexAddr E t x ix = some v) (hx : VR ι x x') (hi : VR ι ix ix') :
    ∃ v', (Instr.indexAt t x' ix').run P w = .ok v' w ∧ VR ι v v' := by
  unfold aIndexAddr at h
  split at h
  · rename_i kk k
    obtain rfl := hi.int_inv
    split at h
    · cases h
    rename_i hk
    split at h
    · rename_i len elem i off hu
      split at h
      · rename_i info hinf
        split at h
        · rename_i hlt
          cases h
          obtain ⟨l, hl, rfl⟩ := hx.ptr_inv
          refine ⟨.pointer (some ⟨l.blk, l.sh + (off + k.toNat * info.size), none⟩), ?_, .ptr hl⟩
          have h1 : 0 ≤ k ∧ k < len := by omega
          simp [Instr.indexAt, asIntOf, run_underlying (E.und_ok _ _ hu), Instr.sureAddr, h1, run_sizeOf (E.inf_ok _ _ hinf), addr_add, Nat.add_assoc]
        · cases h
      · cases h
    · rename_i elem i off len c hu
      split at h
      · rename_i info hinf
        split at h
        · rename_i hlt
          cases h
          cases hx with
          | slice0 => omega
          | slice hl hn hc hlim =>
            rename_i c' l
            refine ⟨.pointer (some ⟨l.blk, l.sh + (off + k.toNat * info.size), none⟩), ?_, .ptr hl⟩
            have h1 : 0 ≤ k ∧ k < len := by omega
            simp [Instr.indexAt, asIntOf, run_underlying (E.und_ok _ _ hu), h1, run_sizeOf (E.inf_ok _ _ hinf), addr_add, Nat.add_assoc]
        · cases h
      · cases h
    · cases h
  · cases h

def aIndex (E : Env P) (t : TypeId) (x ix : Value) : Option Value :=
  match ix with
  | .int _ k => if k < 0 then none else match E.und t, x with
    | some (.array len elem), .agg cs => match E.inf elem with
      | some info => if k.toNat < len then aPart E elem cs (k.toNat * info.size) else none
      | none => none
    | some .string, .string s => if h : k.toNat < s.size then some (.int .u8 s[k.toNat].toNat) else none
    | _, _ => none
  | _ => none

theorem VR.string_inv {ι : Inj} {s : ByteArray} {v' : Value} (h : VR ι (.string s) v') : v' = .string s := by cases h; rfl

theorem aIndex_sim {E : Env P} {t : TypeId} {x x' ix ix' v : Value} {ι : Inj} {w : World} (h : aIndex E t x ix = some v) (hx : VR ι x x') (hi : VR ι ix ix') :
    ∃ v', (Instr.index t x' ix').run P w = .ok v' w ∧ VR ι v v' := by
  unfold aIndex at h
  split at h
  · rename_i kk k
    obtain rfl := hi.int_inv
    split at h
    · cases h
    rename_i hk
    split at h
    · rename_i len elem cs hu
      split at h
      · rename_i info hinf
        split at h
        · rename_i hlt
          cases hx with
          | agg hs hh =>
            obtain ⟨v', h1, h2⟩ := aPart_sim (w := w) h ⟨hs, hh⟩
            have h3 : 0 ≤ k ∧ k < len := by omega
            exact ⟨v', by simp [Instr.index, asIntOf, run_underlying (E.und_ok _ _ hu), h3, run_sizeOf (E.inf_ok _ _ hinf), h1], h2⟩
        · cases h
      · cases h
    · rename_i s hu
      split at h
      · rename_i hlt
        cases h
        obtain rfl := hx.string_inv
        have h3 : 0 ≤ k := by omega
        exact ⟨_, by simp [Instr.index, asIntOf, run_underlying (E.und_ok _ _ hu), h3, hlt], .int _ _⟩
      · cases h
    · cases h
  · cases h

def aExtract (v : Value) (i : Nat) : Option Value :=
  match v with
  | .tuple vs => vs[i]?
  | _ => none

theorem aExtract_sim {x x' v : Value} {i : Nat} {ι : Inj} {w : World} (h : aExtract x i = some v) (hx : VR ι x x') : ∃ v', (Instr.extract x' i).run P w = .ok v' w ∧ VR ι v v' := by
  unfold aExtract at h
  split at h
  · cases hx with
    | tuple hs hh =>
      obtain ⟨v', h1, h2⟩ := VRs.get? ⟨hs, hh⟩ h
      exact ⟨v', by simp [Instr.extract, h1], h2⟩
  · cases h

end Go.Abs

/- Operations of the abstract machine: slices of slices, make, append, copy, len, min, max. -/
namespace Go.Abs
open Go
variable {P : Program}

/-! ### Slicing -/
def natOf : Value → Option Nat
  | .int _ k => if k < 0 then none else some k.toNat
  | _ => none

def boundOf (v : Option Value) (d : Nat) : Option Nat :=
  match v with
  | none => some d
  | some v => natOf v

/-- Optional operands. -/
inductive OR (ι : Inj) : Option Value → Option Value → Prop where
  | none : OR ι none none
  | some {v v' : Value} (h : VR ι v v') : OR ι (some v) (some v')

theorem natOf_inv {v : Value} {k : Nat} (h : natOf v = some k) : ∃ kd n, v = .int kd n ∧ 0 ≤ n ∧ n.toNat = k := by
  unfold natOf at h
  split at h
  · split at h
    · cases h
    · cases h; exact ⟨_, _, rfl, by omega, rfl⟩
  · cases h

theorem run_sliceBound {x x' : Value} {ι : Inj} {y k : Nat} {code : BoundsCode} {w : World} (hv : VR ι x x') (h : natOf x = some k) (hk : k ≤ y) :
    (Instr.sliceBound x' y code).run P w = .ok k w := by
  obtain ⟨kd, n, rfl, h0, rfl⟩ := natOf_inv h
  obtain rfl := hv.int_inv
  have h1 : 0 ≤ n ∧ n ≤ (y : Int) := by omega
  simp [Instr.sliceBound, asIntOf, h1]

theorem run_sliceBounds {lo lo' hi hi' mx mx' : Option Value} {ι : Inj} {isSlice : Bool} {len cap l h m : Nat} {w : World} (hlo : OR ι lo lo') (hhi : OR ι hi hi') (hmx : OR ι mx mx')
    (el : boundOf lo 0 = some l) (eh : boundOf hi len = some h) (em : boundOf mx cap = some m) (h1 : l ≤ h) (h2 : h ≤ m) (h3 : m ≤ cap) (h4 : mx.isSome = true → hi.isSome = true) :
    (Instr.sliceBounds isSlice len cap lo' hi' mx').run P w = .ok (l, h, m) w := by
  unfold Instr.sliceBounds
  cases hmx with
  | none =>
    simp only [boundOf, Option.some.injEq] at em
    subst em
    cases hhi with
    | none =>
      simp only [boundOf, Option.some.injEq] at eh
      subst eh
      cases hlo with
      | none => simp only [boundOf, Option.some.injEq] at el; subst el; simp
      | some hv => simp [run_sliceBound hv el h1]
    | some hv' =>
      cases hlo with
      | none => simp only [boundOf, Option.some.injEq] at el; subst el; simp [run_sliceBound hv' eh h2]
      | some hv => simp [run_sliceBound hv el h1, run_sliceBound hv' eh h2]
  | some hv'' =>
    cases hhi with
    | none => simp at h4
    | some hv' =>
      cases hlo with
      | none => simp only [boundOf, Option.some.injEq] at el; subst el; simp [run_sliceBound hv'' em h3, run_sliceBound hv' eh h2]
      | some hv => simp [run_sliceBound hv'' em h3, run_sliceBound hv el h1, run_sliceBound hv' eh h2]

/-- A slice of a slice: the object, where it begins, and its element's cells. -/
def aSlice (E : Env P) (t : TypeId) (x : Value) (lo hi mx : Option Value) (A : AHeap) : Option Value :=
  if mx.isSome && !hi.isSome then none else
  match boundOf lo 0 with
  | none => none
  | some l =>
  match E.und t, x with
  | some .string, .string s => if mx.isSome then none else
    match boundOf hi s.size with
    | some h => if l ≤ h && h ≤ s.size then some (.string (s.extract l h)) else none
    | none => none
  | some (.slice elem), .slice none 0 0 =>
    match boundOf hi 0, boundOf mx 0, E.inf elem with
    | some 0, some 0, some _ => if l = 0 then some (.slice none 0 0) else none
    | _, _, _ => none
  | some (.slice elem), .slice (some ⟨i, off, none⟩) len c =>
    match boundOf hi len, boundOf mx c, E.inf elem, A.obj i with
    | some h, some m, some info, some (.cells _ es n _ _) =>
      if l ≤ h && h ≤ m && m ≤ c && (es = 0 || es = info.size) && off + l * info.size ≤ n then
        (if mx.isSome && m = l then some (.slice (some ⟨i, off + l * info.size, some 0⟩) 0 0)
         else some (.slice (some ⟨i, off + l * info.size, none⟩) (h - l) (m - l)))
      else none
    | _, _, _, _ => none
  | some (.array k elem), .pointer (some ⟨i, off, none⟩) =>
    match boundOf hi k, E.inf elem, A.obj i with
    | some h, some info, some (.cells _ es n _ _) =>
      if !mx.isSome && l ≤ h && h ≤ k && es = 0 && off + l * info.size ≤ n then some (.slice (some ⟨i, off + l * info.size, none⟩) (h - l) (k - l)) else none
    | _, _, _ => none
  | _, _ => none

theorem aSlice_sim {E : Env P} {t : TypeId} {x x' v : Value} {lo lo' hi hi' mx mx' : Option Value} {A : AHeap} {ι : Inj} {w : World} (h : aSlice E t x lo hi mx A = some v)
    (hx : VR ι x x') (hlo : OR ι lo lo') (hhi : OR ι hi hi') (hmx : OR ι mx mx') (hr : Real ι A w) : ∃ v', (Instr.sliceAt t x' lo' hi' mx').run P w = .ok v' w ∧ VR ι v v' := by
  unfold aSlice at h
  split at h
  · cases h
  rename_i hmh
  have h4 : mx.isSome = true → hi.isSome = true := by
    intro e; cases hq : hi.isSome <;> simp_all
  split at h
  · cases h
  rename_i l el
  split at h
  · rename_i s hu
    split at h
    · cases h
    rename_i hm
    split at h
    · rename_i hh eh
      split at h
      · rename_i hc
        simp only [Bool.and_eq_true, decide_eq_true_eq] at hc
        cases h
        obtain rfl := hx.string_inv
        cases hmx with
        | some => simp at hm
        | none =>
          have hb := run_sliceBounds (P := P) (isSlice := false) (len := s.size) (cap := s.size) (w := w) hlo hhi (.none) el eh rfl hc.1 hc.2 (Nat.le_refl _) (by simp)
          exact ⟨_, by simp [Instr.sliceAt, run_underlying (E.und_ok _ _ hu), Instr.slice, hb], .string _⟩
      · cases h
    · cases h
  · rename_i elem hu
    split at h
    · rename_i info eh em hinf
      split at h
      · rename_i hl0
        cases h
        subst hl0
        cases hx
        have hb := run_sliceBounds (P := P) (isSlice := true) (len := 0) (cap := 0) (w := w) hlo hhi hmx el eh em (Nat.le_refl _) (Nat.le_refl _) (Nat.le_refl _) h4
        exact ⟨.slice none 0 0, by simp [Instr.sliceAt, run_underlying (E.und_ok _ _ hu), Instr.slice, hb, run_sizeOf (E.inf_ok _ _ hinf)], .nilSlice⟩
      · cases h
    · cases h
  · rename_i elem i off len c hu
    split at h
    · rename_i hh m info ro es n z cc eh em hinf hobj
      split at h
      · rename_i hc
        simp only [Bool.and_eq_true, Bool.or_eq_true, decide_eq_true_eq] at hc
        obtain ⟨⟨⟨⟨h1, h2⟩, h3⟩, h5⟩, h6⟩ := hc
        obtain ⟨l', hl', C, ct, fz, hb1, hb2, ⟨hlim, hes0⟩, hsz, _⟩ := hr.cells hobj
        have hess : l'.es = 0 ∨ l'.es = info.size := by
          cases ro with
          | false => rw [(hb2 rfl).2]; exact h5
          | true => exact .inl (hes0 rfl)
        -- the concrete capacity
        have key : ∀ (o' c' : Nat) (hc' : c ≤ c') (ho : o' = l'.sh + off ∨ c' = 0) (hl2 : l'.sh + off + c' * l'.es ≤ l'.lim),
            ∃ v', (Instr.sliceAt t (.slice (some ⟨l'.blk, o', none⟩) len c') lo' hi' mx').run P w = .ok v' w ∧ VR ι v v' := by
          intro o' c' hc' ho hl2
          obtain ⟨m', em', hmm, hmc, hms⟩ : ∃ m', boundOf mx c' = some m' ∧ m ≤ m' ∧ m' ≤ c' ∧ (mx.isSome = true → m' = m) := by
            cases mx with
            | none => simp only [boundOf, Option.some.injEq] at em; exact ⟨c', rfl, by omega, Nat.le_refl _, by simp⟩
            | some x => exact ⟨m, em, Nat.le_refl _, by omega, fun _ => rfl⟩
          have hb := run_sliceBounds (P := P) (isSlice := true) (len := len) (cap := c') (w := w) hlo hhi hmx el eh em' h1 (by omega) hmc h4
          refine ⟨_, by
            simp only [Instr.sliceAt, run_underlying (E.und_ok _ _ hu), Sem.run_bind, Result.andThen_ok, Instr.slice, hb, run_sizeOf (E.inf_ok _ _ hinf), Sem.run_pure]
            rfl, ?_⟩
          simp only [Option.map_some, addr_add]
          split at h
          · rename_i hz
            simp only [Bool.and_eq_true, decide_eq_true_eq] at hz
            cases h
            have e1 := hms hz.1
            rw [show hh - l = 0 from by omega, show m' - l = 0 from by omega, if_pos (by omega)]
            exact .sliceZ hl'
          · cases h
            by_cases hml : m' = l
            · rw [if_pos hml, show hh - l = 0 from by omega, show m - l = 0 from by omega, show m' - l = 0 from by omega]
              exact .slice0 hl'
            · rw [if_neg hml]
              have ho' : o' = l'.sh + off := by omega
              subst ho'
              rw [Nat.add_assoc l'.sh]
              refine .slice hl' (by omega) (by omega) ?_
              rcases hess with e0 | e0
              · rw [e0, Nat.mul_zero]; omega
              · rw [e0] at hl2 ⊢
                have e1 : m' * info.size ≤ c' * info.size := Nat.mul_le_mul_right _ hmc
                have e2 : l * info.size + (m' - l) * info.size = m' * info.size := by rw [← Nat.add_mul]; congr 1; omega
                omega
        cases hx with
        | slice hl2 hn hcc hll => rw [hl'] at hl2; cases hl2; exact key _ _ hcc (.inl rfl) hll
        | slice0 hl2 =>
          rw [hl'] at hl2; cases hl2
          refine key _ _ (Nat.le_refl _) (.inr rfl) ?_
          have : off ≤ n := by omega
          omega
      · cases h
    · cases h
  · rename_i k elem i off hu
    obtain ⟨l', hl2, rfl⟩ := hx.ptr_inv
    split at h
    · rename_i hh info ro es n z cc eh hinf hobj
      split at h
      · rename_i hc
        simp only [Bool.and_eq_true, decide_eq_true_eq] at hc
        obtain ⟨⟨⟨⟨h0, h1⟩, h2⟩, h5⟩, h6⟩ := hc
        cases h
        obtain ⟨l'', hl', C, ct, fz, hb1, hb2, ⟨hlim, hes0⟩, hsz, _⟩ := hr.cells hobj
        rw [hl2] at hl'; cases hl'
        have hess : l'.es = 0 := by
          cases ro with
          | false => rw [(hb2 rfl).2]; exact h5
          | true => exact hes0 rfl
        have hm : mx = none := by cases mx <;> simp_all
        subst hm
        have hb := run_sliceBounds (P := P) (isSlice := false) (len := k) (cap := k) (w := w) hlo hhi hmx el eh rfl h1 h2 (Nat.le_refl _) (by simp)
        refine ⟨_, by
          simp only [Instr.sliceAt, run_underlying (E.und_ok _ _ hu), Sem.run_bind, Result.andThen_ok, Instr.sureAddr, Sem.run_pure, hb, run_sizeOf (E.inf_ok _ _ hinf)]
          rfl, ?_⟩
        simp only [addr_add]
        by_cases hkl : k = l
        · rw [if_pos hkl, show hh - l = 0 from by omega, show k - l = 0 from by omega]
          exact .slice0 hl2
        · rw [if_neg hkl, Nat.add_assoc l'.sh]
          refine .slice hl2 (by omega) (Nat.le_refl _) ?_
          rw [hess, Nat.mul_zero]; omega
      · cases h
    · cases h
  · cases h

end Go.Abs

/- Operations of the abstract machine: make, len, append, copy. -/
namespace Go.Abs
open Go
variable {P : Program}

/-! ### make([]T, len, cap) -/
def aMakeSlice (E : Env P) (t : TypeId) (len cap : Value) (A : AHeap) : Option (Value × AHeap) :=
  match natOf len, natOf cap, E.und t with
  | some l, some c, some (.slice elem) => match E.inf elem with
    | some i => match i.zero with
      | some z => if l ≤ c && i.bytes * c ≤ 2 ^ 48 && c ≤ 2 ^ 48 && z.cells.toList.all flat1 && (0 < z.cells.size) then
          some (.slice (some ⟨A.next, 0, none⟩) l c, A.push (.cells false i.size (c * i.size) z.cells.toList .e)) else none
      | none => none
    | none => none
  | _, _, _ => none

theorem wrap64_small {n : Int} (h0 : 0 ≤ n) (h1 : n ≤ 2 ^ 48) : IntKind.i64.wrap n = n := by
  unfold IntKind.wrap
  simp only [IntKind.bits, IntKind.signed]
  have : n % (2 ^ 64 : Int) = n := Int.emod_eq_of_lt h0 (by omega)
  simp only [this]
  rw [if_neg]
  simp
  omega

theorem cellAt_zero (z : Value) (k : Nat) : cellAt z.cells.toList .e k = zeroCell z k := by
  unfold cellAt zeroCell; rw [T.get_e]

theorem aMakeSlice_sim {E : Env P} {t : TypeId} {ln ln' cp cp' : Value} {A A' : AHeap} {v : Value} {ι : Inj} {w : World} (h : aMakeSlice E t ln cp A = some (v, A'))
    (hl : VR ι ln ln') (hc : VR ι cp cp') (hr : Real ι A w) (hF : Fresh ι A A') : SimV P (Instr.makeSlice t ln' cp') ι A w v A' := by
  unfold aMakeSlice at h
  split at h
  · rename_i l c elem e1 e2 hu
    split at h
    · rename_i i hi
      split at h
      · rename_i z hz
        split at h
        · rename_i hcond
          simp only [Bool.and_eq_true, decide_eq_true_eq] at hcond
          obtain ⟨⟨⟨⟨h1, h2⟩, h3⟩, hf⟩, h0⟩ := hcond
          cases h
          obtain ⟨k1, n1, rfl, p1, rfl⟩ := natOf_inv e1
          obtain ⟨k2, n2, rfl, p2, rfl⟩ := natOf_inv e2
          obtain rfl := hl.int_inv
          obtain rfl := hc.int_inv
          have w1 : IntKind.i64.wrap n1 = n1 := wrap64_small p1 (by omega)
          have w2 : IntKind.i64.wrap n2 = n2 := wrap64_small p2 (by omega)
          have hb : ((i.bytes : Int) * n2) ≤ 2 ^ 48 := by
            have : ((i.bytes * n2.toNat : Nat) : Int) ≤ 2 ^ 48 := by omega
            rw [Int.natCast_mul, Int.toNat_of_nonneg p2] at this
            exact this
          obtain ⟨r1, r2⟩ := hr.newRow (hF _ (Nat.le_refl _) (by simp)) elem i.size (n := n2.toNat * i.size) (z := z.cells.toList) (c := .e) (C := ((List.range (n2.toNat * i.size)).map (zeroCell z)).toArray) (by simp)
            (fun k hk => ⟨zeroCell z k, by simp [hk], by rw [cellAt_zero]; exact zeroCell_VR hf h0 k⟩)
          refine ⟨_, _, .slice (some ⟨w.heap.size, 0, none⟩) n1.toNat n2.toNat, ?_, ?_, r1, r2⟩
          · have e3 : (Array.range (n2.toNat * i.size)).map (fun k => z.cells[k % z.cells.size]!) = ((List.range (n2.toNat * i.size)).map (zeroCell z)).toArray := by
              apply Array.ext'
              simp only [Array.toList_map, Array.toList_range]
              exact List.map_congr_left fun k _ => zeroCell_eq z h0 k
            have c1 : (decide (n2 < 0) || decide ((i.bytes : Int) * n2 > 2 ^ 48)) = false := by
              simp only [Bool.or_eq_false_iff, decide_eq_false_iff_not]; omega
            have c2 : (decide (n1 < 0)) = false := by simp only [decide_eq_false_iff_not]; omega
            have c3 : (decide (n1 > n2)) = false := by simp only [decide_eq_false_iff_not]; omega
            simp only [Instr.makeSlice, Sem.run_bind, run_underlying (E.und_ok _ _ hu), Result.andThen_ok, asInt, asIntOf, Sem.run_pure, run_typeInfo (E.inf_ok _ _ hi), w1, w2, c1, c2, c3, Bool.or_self, Bool.false_or]
            simp only [Bool.false_eq_true, if_false, Sem.run_bind, run_askRoom, run_sizeOf (E.inf_ok _ _ hi), Result.andThen_ok]
            by_cases hn : n2.toNat * i.size = 0
            · have h00 : Array.range 0 = #[] := rfl
              simp [hn, newRow, h00]
            · rw [if_neg hn]
              simp only [Sem.run_bind, run_zeroValue (E.inf_ok _ _ hi) hz, Result.andThen_ok, Sem.run_pure, e3]
              simp [newRow]
          · exact VR.slice (l := ⟨w.heap.size, 0, _, i.size⟩) (Inj.put_same _ _ _) (by omega) (Nat.le_refl _) (by simp)
        · cases h
      · cases h
    · cases h
  · cases h

/-! ### len, cap -/
def aLen (E : Env P) (t : TypeId) (x : Value) (A : AHeap) : Option Value :=
  match E.und t, x with
  | some .string, .string s => some (goInt s.size)
  | some (.array n _), _ => some (goInt n)
  | some (.slice _), .slice _ n _ => some (goInt n)
  | some (.map _ _), .map none => some (goInt 0)
  | some (.map _ _), .map (some i) => match A.obj i with
    | some (.map es) => some (goInt es.length)
    | _ => none
  | _, _ => none

theorem VR.slice_len {ι : Inj} {a : Option Addr} {n c : Nat} {v' : Value} (h : VR ι (.slice a n c) v') : ∃ a' c', v' = .slice a' n c' ∧ c ≤ c' := by
  cases h with
  | nilSlice => exact ⟨_, _, rfl, Nat.le_refl _⟩
  | slice _ _ hc _ => exact ⟨_, _, rfl, hc⟩
  | slice0 _ => exact ⟨_, _, rfl, Nat.le_refl _⟩
  | sliceZ _ => exact ⟨_, _, rfl, Nat.le_refl _⟩
theorem VR.map_inv {ι : Inj} {i : Nat} {v' : Value} (h : VR ι (.map (some i)) v') : ∃ l, ι i = some l ∧ v' = .map (some l.blk) := by
  cases h with
  | map h => exact ⟨_, h, rfl⟩
theorem VR.nilMap_inv {ι : Inj} {v' : Value} (h : VR ι (.map none) v') : v' = .map none := by cases h; rfl

/-- The map behind an abstract one. -/
theorem Real.map {ι : Inj} {A : AHeap} {w : World} (h : Real ι A w) {i : Nat} {es : List (Value × Value)} (hi : A.obj i = some (.map es)) :
    ∃ l E clk, ι i = some l ∧ w.heap[l.blk]? = some (.map E clk) ∧ E.size = es.length ∧ ∀ k (_ : k < es.length), ∃ e, E[k]? = some e ∧ VR ι es[k].1 e.key ∧ VR ι es[k].2 e.val := by
  obtain ⟨l, hl, E, clk, h1, h2, h3⟩ := h.loc _ _ hi
  exact ⟨l, E, clk, hl, h1, h2, h3⟩

theorem run_getObj_map {w : World} {r : Nat} {E : Array MapEntry} {clk : Nat} (h : w.heap[r]? = some (.map E clk)) : (getObj r).run P w = .ok (.map E clk) w := by
  simp [getObj, Sem.run, h]

theorem aLen_sim {E : Env P} {t ty : TypeId} {x x' v : Value} {A : AHeap} {ι : Inj} {w : World} {ts : Array TypeId} (ht : ts[0]? = some t) (h : aLen E t x A = some v) (hx : VR ι x x') (hr : Real ι A w) :
    ∃ v', (Builtin.len_ ts ty #[x']).run P w = .ok v' w ∧ VR ι v v' := by
  unfold aLen at h
  split at h
  · rename_i s hu
    cases h
    obtain rfl := hx.string_inv
    exact ⟨goInt _, by simp [Builtin.len_, ht, run_underlying (E.und_ok _ _ hu)], .int _ _⟩
  · rename_i n e hu
    cases h
    exact ⟨goInt _, by simp [Builtin.len_, ht, run_underlying (E.und_ok _ _ hu)], .int _ _⟩
  · rename_i e a n c hu
    cases h
    obtain ⟨a', c', rfl, _⟩ := hx.slice_len
    exact ⟨goInt _, by simp [Builtin.len_, ht, run_underlying (E.und_ok _ _ hu)], .int _ _⟩
  · rename_i kt et hu
    cases h
    obtain rfl := hx.nilMap_inv
    exact ⟨goInt 0, by simp [Builtin.len_, ht, run_underlying (E.und_ok _ _ hu)], .int _ _⟩
  · rename_i kt et i hu
    split at h
    · rename_i es hi
      cases h
      obtain ⟨l, hl, rfl⟩ := hx.map_inv
      obtain ⟨l', M, clk, hl', h1, h2, _⟩ := hr.map hi
      rw [hl] at hl'; cases hl'
      exact ⟨goInt es.length, by simp [Builtin.len_, ht, run_underlying (E.und_ok _ _ hu), run_getObj_map h1, h2], .int _ _⟩
    · cases h
  · cases h

/-- The capacity of a slice of which it is known. -/
def aCap (E : Env P) (t : TypeId) (x : Value) : Option Value :=
  match E.und t, x with
  | some (.slice _), .slice none 0 0 => some (goInt 0)
  | some (.slice _), .slice (some ⟨_, _, some 0⟩) 0 0 => some (goInt 0)
  | _, _ => none

theorem aCap_sim {E : Env P} {t ty : TypeId} {x x' v : Value} {ι : Inj} {w : World} {ts : Array TypeId} (ht : ts[0]? = some t) (h : aCap E t x = some v) (hx : VR ι x x') :
    ∃ v', (Builtin.cap_ ts ty #[x']).run P w = .ok v' w ∧ VR ι v v' := by
  unfold aCap at h
  split at h
  · rename_i e hu
    cases h; cases hx
    exact ⟨goInt 0, by simp [Builtin.cap_, ht, run_underlying (E.und_ok _ _ hu)], .int _ _⟩
  · rename_i e a b hu
    cases h; cases hx
    exact ⟨goInt 0, by simp [Builtin.cap_, ht, run_underlying (E.und_ok _ _ hu)], .int _ _⟩
  · cases h

/-! ### Cells of a slice that are appended, or copied -/
def aFirst (size n : Nat) (x : Value) (A : AHeap) : Option (List Value) :=
  match x with
  | .slice none _ _ => if n = 0 then some [] else none
  | .slice (some ⟨i, off, _⟩) len _ => if n = 0 then some [] else match A.obj i with
    | some (.cells _ _ m z c) => if n ≤ len && off + n * size ≤ m then some ((List.range (n * size)).map fun k => cellAt z c (off + k)) else none
    | _ => none
  | _ => none

theorem run_loadCells0 {a : Addr} {w : World} : (loadCells a 0).run P w = .ok #[] w := by simp [loadCells, loadCellsFrom]

theorem aFirst_sim {size n : Nat} {x x' : Value} {A : AHeap} {l : List Value} {ι : Inj} {w : World} (h : aFirst size n x A = some l) (hx : VR ι x x') (hr : Real ι A w) :
    ∃ l', (∀ w', w'.heap = w.heap → (Builtin.firstCells size n x').run P w' = .ok l' w') ∧ VRs ι l.toArray l' := by
  unfold aFirst at h
  split at h
  · split at h
    · cases h; cases hx
      exact ⟨#[], fun w' _ => by simp [Builtin.firstCells], .nil⟩
    · cases h
  · rename_i i off sp len cp
    split at h
    · rename_i hn
      cases h; subst hn
      cases hx <;> exact ⟨#[], fun w' _ => by simp [Builtin.firstCells, run_loadCells0], .nil⟩
    · rename_i hn0
      split at h
      · rename_i ro es m z c hi
        split at h
        · rename_i hc
          simp only [Bool.and_eq_true, decide_eq_true_eq] at hc
          cases h
          cases hx with
          | slice hl _ _ _ =>
            obtain ⟨l', hl', hcr⟩ := hr.cells hi
            rw [hl] at hl'; cases hl'
            obtain ⟨vs, r1, r2⟩ := run_load_cells (P := P) hcr hc.2
            exact ⟨vs, fun w' hw => by simp [Builtin.firstCells, r1 w' hw], r2⟩
          | slice0 hl => omega
          | sliceZ hl => omega
        · cases h
      · cases h
  · cases h

end Go.Abs
