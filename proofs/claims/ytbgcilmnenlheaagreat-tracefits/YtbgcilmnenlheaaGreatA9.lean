/- From the abstract machine to the claim: a call of a function of flat arguments. -/
import Derived.Test.YtbgcilmnenlheaaGreatA8
import Derived.RowKit3
import Derived.Carry
import Derived.Deep.Slices
set_option linter.unusedSimpArgs false
set_option linter.unusedVariables false
namespace Go.Abs
open Go
variable {P : Program} {E : Env P} {X0 : Ext0}

theorem Real.empty (w : World) : Real (fun _ => none) ⟨.e, 0, 0⟩ w where
  loc := fun i o h => by
    have : (T.e : T AObj).get i = some o := h
    rw [T.get_e] at this; cases this
  dom := fun i l h => by cases h
  sep := fun i j o o' l l' h => by
    have : (T.e : T AObj).get i = some o := h
    rw [T.get_e] at this; cases this
theorem WF.empty : WF ⟨.e, 0, 0⟩ := ⟨Nat.le_refl _, fun j _ => T.get_e j⟩

theorem calls_of (hcall : ∀ f d c, E.fns f = some d → d.body = some c → ∀ args w, (callFunc f args).run P w = .ok (.enter f args) w)
    (hX : ∀ f args A v A', X0 f args A v A' → Sem' P (.call f args A v A')) {f : FuncId} {fn : Func} {args : List Value} {r : Value} (hf : E.fns f = some fn) (hb : fn.body.isSome = true)
    (ha : ∀ ι, VRl ι args args) (hr : flat r = true) (h : wCall E X0 f args ⟨.e, 0, 0⟩ (fun v _ => v = r)) (w : World) :
    Calls P f args.toArray w fun e w' => e = .returned r ∧ RowKit.Grown w w' := by
  obtain ⟨v, A', hbs, hl, rfl⟩ := h
  obtain ⟨_, hsem⟩ := sim hcall hX hbs
  obtain ⟨ι', w', v', hto, hv, hreal, hext⟩ := hsem (fun _ => none) w args (ha _) (Real.empty w) (fun _ _ _ => rfl)
  obtain ⟨c, hc⟩ := Option.isSome_iff_exists.1 hb
  have hv' := flat_eq hr hv
  subst hv'
  have hgrown : RowKit.Grown w w' := by
    refine ⟨⟨hext.os.1, hext.os.2.1, fun i hi => ?_⟩, hext.fz, hext.size⟩
    have hk := hext.keep i hi fun j o l ho => by
      have : (T.e : T AObj).get j = some o := ho
      rw [T.get_e] at this; cases this
    rw [hk]
    split
    · rename_i h1 h2; rw [h1] at h2; cases h2; exact ⟨rfl, rfl, rfl, fun _ _ => rfl⟩
    · rename_i h1 h2; rw [h1] at h2; cases h2; exact .inr ⟨rfl, rfl⟩
    · rfl
  rcases hto with h1 | ⟨_, h2⟩
  · rw [hcall f fn c hf hc] at h1; cases h1
  · intro cs
    obtain ⟨fr, hs, hm, hd, hk, hfn, d, hdf, hres⟩ := h2 .normal cs (by decide)
    exact ⟨_, w', fr, ⟨rfl, hgrown⟩, hs, hfn, hm, hd, hk, d, by rw [hfn]; exact hdf, hres⟩
end Go.Abs

/- Arguments that hold rows: read-only objects at the start of a call; a call that was run on nothing runs on anything. -/
namespace Go.Abs
open Go
variable {P : Program} {E : Env P} {X0 : Ext0}

/-! ### A call that was run on nothing -/
theorem sem_any {f : FuncId} {v : Value} {A0 : AHeap} (hv : flat v = true) (h : Sem' P (.call f [] ⟨.e, 0, 0⟩ v A0)) (A : AHeap) : Sem' P (.call f [] A v A) := by
  refine ⟨Nat.le_refl _, fun ι w args' hargs hr _ => ?_⟩
  obtain ⟨_, h⟩ := h
  obtain rfl : args' = [] := List.eq_nil_of_length_eq_zero hargs.1.symm
  obtain ⟨ι', w', v', hto, hvv, _, hext⟩ := h (fun _ => none) w [] .nil (Real.empty w) (fun _ _ _ => rfl)
  have hv' := flat_eq hv hvv
  subst hv'
  have hk : ∀ b, b < w.heap.size → w'.heap[b]? = w.heap[b]? := fun b hb => hext.keep b hb fun j o l ho => by
    have : (T.e : T AObj).get j = some o := ho
    rw [T.get_e] at this; cases this
  refine ⟨ι, w', _, hto, flat_refl hv, ⟨fun i o e => ?_, fun i l e => Nat.lt_of_lt_of_le (hr.dom i l e) hext.size, hr.sep⟩,
    ⟨ι.le_refl, Nat.le_refl _, hext.size, fun i l e e' => (by rw [e] at e'; cases e'), fun b hb _ => hk b hb, fun i o l a b c _ => ⟨i, o, l, a, b, c, rfl⟩, hext.os, fun _ _ _ _ _ h => h, hext.fz⟩⟩
  obtain ⟨l, hl, ho⟩ := hr.loc i o e
  exact ⟨l, hl, ho.mono ι.le_refl (hk _ (hr.dom i l hl))⟩

/-- One more function whose call is known: it answers so, and leaves all as it was. -/
def XA (X0 : Ext0) (f : FuncId) (v : Value) : Ext0 := fun g args A r A' => X0 g args A r A' ∨ (g = f ∧ args = [] ∧ r = v ∧ A' = A)
theorem XA_sem (hcall : ∀ f d c, E.fns f = some d → d.body = some c → ∀ args w, (callFunc f args).run P w = .ok (.enter f args) w)
    (hX : ∀ f args A v A', X0 f args A v A' → Sem' P (.call f args A v A')) {f : FuncId} {v : Value} (hv : flat v = true) (h : wCall E X0 f [] ⟨.e, 0, 0⟩ (fun r _ => r = v)) :
    ∀ g args A r A', XA X0 f v g args A r A' → Sem' P (.call g args A r A') := by
  rintro g args A r A' (h' | ⟨rfl, rfl, rfl, rfl⟩)
  · exact hX _ _ _ _ _ h'
  · obtain ⟨v', A1, hbs, _, rfl⟩ := h
    exact sem_any hv (sim hcall hX hbs) _
theorem XA_call {f : FuncId} {v : Value} {A : AHeap} {K : Value → AHeap → Prop} (hw : WF A) (h : K v A) : wCall E (XA X0 f v) f [] A K :=
  ⟨v, A, .ext (.inr ⟨rfl, rfl, rfl, rfl⟩), Low.refl hw, h⟩

/-! ### Read-only rows -/
/-- Cells, and where they lie: block, shift, the block's cells. -/
structure Row where
  cells : List Value
  blk : Nat
  off : Nat
  lim : Nat
def Row.obj (r : Row) : AObj := .cells true 0 r.cells.length [] (T.ofList r.cells)
def Row.loc (r : Row) : Loc := ⟨r.blk, r.off, r.lim, 0⟩
structure Row.At (r : Row) (w : World) : Prop where
  at_ : ∃ C t fz, w.heap[r.blk]? = some (.cells C t fz) ∧ r.lim = C.size ∧ r.off + r.cells.length ≤ C.size ∧ ∀ k, k < r.cells.length → C[r.off + k]? = r.cells[k]?
  flat : r.cells.all flat1 = true
def rowsH (L : List Row) : AHeap := ⟨T.ofList (L.map Row.obj), L.length, 0⟩
def rowsI (L : List Row) : Inj := fun i => (L[i]?).map Row.loc
theorem rowsH_obj {L : List Row} {i : Nat} : (rowsH L).obj i = (L[i]?).map Row.obj := by
  unfold rowsH AHeap.obj
  rw [T.get_ofList, List.getElem?_map]
theorem rowsH_wf {L : List Row} : WF (rowsH L) := ⟨Nat.zero_le _, fun j hj => by
  rw [rowsH_obj, List.getElem?_eq_none hj]; rfl⟩
theorem rowsH_real {L : List Row} {w : World} (h : ∀ r ∈ L, r.At w) : Real (rowsI L) (rowsH L) w where
  loc := fun i o e => by
    rw [rowsH_obj] at e
    obtain ⟨r, hr, rfl⟩ := Option.map_eq_some_iff.1 e
    refine ⟨r.loc, by unfold rowsI; rw [hr]; rfl, ?_⟩
    obtain ⟨⟨C, t, fz, h1, h2, h3, h4⟩, hf⟩ := h r (List.mem_of_getElem? hr)
    refine ⟨C, t, fz, h1, (fun e => Bool.noConfusion e), ⟨h2, fun _ => rfl⟩, h3, fun k hk => ?_⟩
    refine ⟨r.cells[k], (h4 k hk).trans (List.getElem?_eq_getElem hk), ?_⟩
    unfold cellAt
    rw [T.get_ofList, List.getElem?_eq_getElem hk]
    exact flat1_refl (List.all_eq_true.1 hf _ (List.getElem_mem hk))
  dom := fun i l e => by
    unfold rowsI at e
    obtain ⟨r, hr, rfl⟩ := Option.map_eq_some_iff.1 e
    obtain ⟨⟨C, t, fz, h1, _⟩, _⟩ := h r (List.mem_of_getElem? hr)
    exact (Array.getElem?_eq_some_iff.1 h1).1
  sep := fun i j o o' l l' e _ ho => by
    rw [rowsH_obj] at e
    obtain ⟨r, hr, rfl⟩ := Option.map_eq_some_iff.1 e
    cases ho
theorem rowsH_ro {L : List Row} {i : Nat} {o : AObj} (h : (rowsH L).obj i = some o) : o.owned = false := by
  rw [rowsH_obj] at h
  obtain ⟨r, hr, rfl⟩ := Option.map_eq_some_iff.1 h
  rfl
theorem rowsH_cell {L : List Row} {i k : Nat} {r : Row} {v : Value} (h : L[i]? = some r) (hk : r.cells[k]? = some v) : (rowsH L).cell i k = some v := by
  unfold AHeap.cell
  rw [rowsH_obj, h]
  have hl := (List.getElem?_eq_some_iff.1 hk).1
  show (if k < r.cells.length then some (cellAt [] (T.ofList r.cells) k) else none) = some v
  rw [if_pos hl]
  unfold cellAt
  rw [T.get_ofList, hk]

/-- From the abstract machine to the claim: a call whose arguments hold rows. -/
theorem calls_in (hcall : ∀ f d c, E.fns f = some d → d.body = some c → ∀ args w, (callFunc f args).run P w = .ok (.enter f args) w)
    (hX : ∀ f args A v A', X0 f args A v A' → Sem' P (.call f args A v A')) {f : FuncId} {fn : Func} {args args' : List Value} {r : Value} (hf : E.fns f = some fn) (hb : fn.body.isSome = true)
    {L : List Row} {w : World} (hL : ∀ r ∈ L, r.At w) (ha : VRl (rowsI L) args args') (hr : flat r = true) (h : wCall E X0 f args (rowsH L) (fun v _ => v = r)) :
    Calls P f args'.toArray w fun e w' => e = .returned r ∧ RowKit.Grown w w' ∧ RowKit.Below w.heap.size w w' := by
  obtain ⟨v, A', hbs, hl, rfl⟩ := h
  obtain ⟨_, hsem⟩ := sim hcall hX hbs
  obtain ⟨ι', w', v', hto, hv, hreal, hext⟩ := hsem (rowsI L) w args' ha (rowsH_real hL) (fun i hi _ => by unfold rowsI; rw [List.getElem?_eq_none hi]; rfl)
  obtain ⟨c, hc⟩ := Option.isSome_iff_exists.1 hb
  have hv' := flat_eq hr hv
  subst hv'
  have hgrown : RowKit.Grown w w' := by
    refine ⟨⟨hext.os.1, hext.os.2.1, fun i hi => ?_⟩, hext.fz, hext.size⟩
    have hk := hext.keep i hi fun j o l ho hw => by
      rw [rowsH_ro ho] at hw; cases hw
    rw [hk]
    split
    · rename_i h1 h2; rw [h1] at h2; cases h2; exact ⟨rfl, rfl, rfl, fun _ _ => rfl⟩
    · rename_i h1 h2; rw [h1] at h2; cases h2; exact .inr ⟨rfl, rfl⟩
    · rfl
  have hbelow : RowKit.Below w.heap.size w w' := ⟨hext.os.1, hext.os.2.2, hext.os.2.1, hext.size, fun i hi => hext.keep i hi fun j o l ho hw => by
      rw [rowsH_ro ho] at hw; cases hw⟩
  rcases hto with h1 | ⟨_, h2⟩
  · rw [hcall f fn c hf hc] at h1; cases h1
  · intro cs
    obtain ⟨fr, hs, hm, hd, hk, hfn, d, hdf, hres⟩ := h2 .normal cs (by decide)
    exact ⟨_, w', fr, ⟨rfl, hgrown, hbelow⟩, hs, hfn, hm, hd, hk, d, by rw [hfn]; exact hdf, hres⟩

/-! ### What a reading says of cells -/
/-- What lies in a cell of a type: a bool, an integer of a kind, a string; none: something else. -/
def kindAt (P : Program) : Nat → TypeId → Nat → Option TypeDesc
  | 0, _, _ => none
  | n + 1, t, i => match P.underlying t with
    | some .bool => if i = 0 then some .bool else none
    | some (.int k) => if i = 0 then some (.int k) else none
    | some .string => if i = 0 then some .string else none
    | some (.struct fs) => match fs.toList.find? fun f => f.offset ≤ i && i < f.offset + P.cellsOf f.type with
      | some f => kindAt P n f.type (i - f.offset)
      | none => none
    | _ => none
def fits (d : TypeDesc) (v : Value) : Prop := match d with
  | .bool => ∃ b, v = .bool b
  | .int k => ∃ n, v = .int k n ∧ (Lit.int k n).wf = true
  | .string => ∃ s : ByteArray, v = .string s ∧ s.size ≤ maxLen
  | _ => False
theorem fits_flat {d : TypeDesc} {v : Value} (h : fits d v) : flat1 v = true := by
  unfold fits at h
  split at h
  · obtain ⟨b, rfl⟩ := h; rfl
  · obtain ⟨n, rfl, _⟩ := h; rfl
  · obtain ⟨s, rfl, _⟩ := h; rfl
  · cases h
section
variable {H : Type} {enc : TypeId × Value → H} {w : World} {base : Nat} {spare : Nat → Bool} {held : Bool}
theorem kindAt_of : ∀ (m : Nat) {fuel : Nat} {t : TypeId} {cs : List Value} {x : DataW H × List MemPlace} {i : Nat} {d : TypeDesc}, DataW.trod enc P w base spare held fuel t cs = some x → kindAt P m t i = some d → ∃ v, cs[i]? = some v ∧ fits d v := by
  intro m
  induction m with
  | zero => intro fuel t cs x i d _ h; cases h
  | succ m ih =>
    intro fuel t cs x i d h hk
    unfold kindAt at hk
    split at hk
    · rename_i hu
      obtain ⟨b, rfl, _⟩ := DataW.trod_bool hu h
      split at hk
      · rename_i hi; cases hk; subst hi; exact ⟨_, rfl, b, rfl⟩
      · cases hk
    · rename_i k hu
      obtain ⟨n, rfl, _, hw⟩ := DataW.trod_int hu h
      split at hk
      · rename_i hi; cases hk; subst hi; exact ⟨_, rfl, n, rfl, hw⟩
      · cases hk
    · rename_i hu
      obtain ⟨s, rfl, _, hs⟩ := DataW.trod_string hu h
      split at hk
      · rename_i hi; cases hk; subst hi; exact ⟨_, rfl, s, rfl, hs⟩
      · cases hk
    · rename_i fs hu
      split at hk
      · rename_i f hf
        obtain ⟨xs, n, _, _, hl, hxl, hall⟩ := DataW.trod_struct hu h
        have hp := List.find?_some hf
        simp only [Bool.and_eq_true, decide_eq_true_eq] at hp
        obtain ⟨j, hj⟩ := List.getElem?_of_mem (List.mem_of_find?_eq_some hf)
        have hj' : fs[j]? = some f := by rw [← Array.getElem?_toList]; exact hj
        have hjl : j < xs.length := by rw [hxl]; exact (Array.getElem?_eq_some_iff.1 hj').1
        have := hall j f hj'
        rw [List.getElem?_eq_getElem hjl] at this
        obtain ⟨v, hv, hfit⟩ := ih this hk
        refine ⟨v, ?_, hfit⟩
        rw [List.getElem?_take, if_pos (by omega), List.getElem?_drop] at hv
        rw [← hv]; congr 1; omega
      · cases hk
    · cases hk
end
end Go.Abs

/- A slice among the arguments: its row, and its cells. -/
namespace Go.Abs
open Go Go.ChangeShapes Go.WideShapes Go.Deep
variable {P : Program}

theorem rowsI_at {pre L post : List Row} {r : Row} (h : L = [r]) : rowsI (pre ++ L ++ post) pre.length = some r.loc := by
  subst h
  unfold rowsI
  rw [List.append_assoc, List.getElem?_append_right (Nat.le_refl _)]
  simp
theorem rows_get {pre L post : List Row} {r : Row} (h : L = [r]) : (pre ++ L ++ post)[pre.length]? = some r := by
  subst h
  rw [List.append_assoc, List.getElem?_append_right (Nat.le_refl _)]
  simp

/-- A slice as the walk takes it: its number, a cell for each place. -/
structure ArgOk (w : World) (v : Value) (s : Nat) (ks : Nat → TypeDesc) (L : List Row) (n : Nat) (c : Nat → Nat → Value) : Prop where
  at_ : ∀ r ∈ L, r.At w
  fit : ∀ k j, k < n → j < s → fits (ks j) (c k j)
  rel : ∀ pre post : List Row, ∃ b, VR (rowsI (pre ++ L ++ post)) (.slice b n n) v ∧ (0 < n → b = some ⟨pre.length, 0, none⟩) ∧
    ∀ k j, k < n → j < s → (rowsH (pre ++ L ++ post)).cell pre.length (k * s + j) = some (c k j)

theorem cells_of {A : AHeap} {i off m : Nat} {c : Nat → Value} (hm : 0 < m) (h : ∀ j, j < m → A.cell i (off + j) = some (c j)) : A.cells i off m = some (.agg ((List.range m).map c).toArray) := by
  have hl := h (m - 1) (by omega)
  unfold AHeap.cell at hl
  unfold AHeap.cells
  split at hl
  · rename_i ro es n z cc ho
    split at hl
    · rename_i hlt
      rw [if_pos (by omega)]
      congr 3
      refine List.map_congr_left fun k hk => ?_
      have hk' := List.mem_range.1 hk
      have := h k hk'
      unfold AHeap.cell at this
      rw [ho] at this
      simp only at this
      rw [if_pos (by omega)] at this
      exact Option.some.inj this
    · cases hl
  · cases hl

section
variable {H : Type} {enc : TypeId × Value → H} {w : World}
theorem arg_of {t e : TypeId} (ht : P.underlying t = some (.slice e)) {s : Nat} (hs : P.cellsOf e = s) (hs0 : 0 < s) {ks : Nat → TypeDesc} {m : Nat} (hks : ∀ j, j < s → kindAt P m e j = some (ks j)) {v : Value}
    {bs : Nat} (hok : Value.okWide P w .any bs t v) {d : DataW H} {ps : List MemPlace} (h : DataW.Trod enc P w 0 (fun _ => true) true t v d ps) :
    (∃ L n c, ArgOk w v s ks L n c) := by
  obtain ⟨fuel, h⟩ := h
  obtain ⟨a0, len0, cap0, rfl⟩ := okWide_slice ht hok
  have hcell : ((.slice a0 len0 cap0 : Value).cells.toList) = [.slice a0 len0 cap0] := rfl
  rw [hcell] at h
  rcases open_slice ht h with ⟨hcs, _⟩ | ⟨a, len, cap, mm, n, D, Pl, hcs, _, hl, _, hmm, _, hx⟩
  · cases hcs
    exact ⟨[], 0, fun _ _ => Go.undef, by simp, fun k j hk => by omega, fun pre post => ⟨none, .nilSlice, by omega, fun k j hk => by omega⟩⟩
  · have e1 : a0 = some a ∧ len0 = len ∧ cap0 = cap := by cases hcs; exact ⟨rfl, rfl, rfl⟩
    clear hcs
    rw [e1.1, e1.2.1, e1.2.2] at hok ⊢
    clear e1
    have hmm : mm = cap := hmm
    rw [hs, hmm] at hx
    clear hmm h
    simp only [Value.okWide, ht, Cell.okWide, Cell.ok] at hok
    obtain ⟨_, _, _, hsp, row, cells, hshape, _⟩ := hok
    unfold World.shape? at hshape
    split at hshape
    · rename_i C t' fz hC
      have hspot : ∀ k, (a.add k).spot = none := fun k => by
        unfold Addr.add
        split
        · exact hsp
        · rfl
      have hblk : ∀ k, (a.add k).block = a.block := fun k => by
        unfold Addr.add
        split <;> rfl
      have hoff : ∀ k, (a.add k).off = a.off + k := fun k => by
        unfold Addr.add
        split
        · rename_i h0; rw [h0]; rfl
        · rfl
      have hcell : ∀ k, w.cell? (a.add k) = C[a.off + k]? := fun k => by
        unfold World.cell?
        rw [hblk, hC, hspot, hoff]; rfl
      obtain ⟨cc, hcc⟩ := choose_lt (α := List Value) (p := fun i cs => cs.length = s ∧ (∀ j, j < s → C[a.off + (i * s + j)]? = cs[j]?) ∧ ∃ y, DataW.trod enc P w 0 (fun _ => true) true n e cs = some y) (fun i hi => by
        obtain ⟨cs', h1, h2⟩ := hx i hi
        obtain ⟨_, h3, h4⟩ := World.cells?_some h1
        refine ⟨cs', h3, fun j hj => ?_, _, h2⟩
        rw [← h4 j hj, add_add, hcell])
      have hfit : ∀ k j, k < cap → j < s → C[a.off + (k * s + j)]? = some ((cc k).getD j Go.undef) ∧ fits (ks j) ((cc k).getD j Go.undef) := fun k j hk hj => by
        obtain ⟨h1, h2, y, h3⟩ := hcc k hk
        obtain ⟨v, hv, hf⟩ := kindAt_of m h3 (hks j hj)
        rw [h2 j hj, List.getD_eq_getElem?_getD, hv]
        exact ⟨rfl, hf⟩
      have key : ∀ k, k < len * s → ∃ q j, k = q * s + j ∧ q < len ∧ j < s := fun k hk =>
        ⟨k / s, k % s, by rw [Nat.mul_comm]; exact (Nat.div_add_mod k s).symm, (Nat.div_lt_iff_lt_mul hs0).2 hk, Nat.mod_lt _ hs0⟩
      by_cases hcap : cap = 0
      · subst hcap
        obtain rfl : len = 0 := by omega
        refine ⟨[⟨[], a.block, 0, C.size⟩], 0, fun _ _ => Go.undef, ?_, fun k j hk => by omega, fun pre post => ⟨some ⟨pre.length, 0, none⟩, ?_, fun hk => by omega, fun k j hk => by omega⟩⟩
        · intro r hr
          simp only [List.mem_singleton] at hr
          subst hr
          exact ⟨⟨C, t', fz, hC, rfl, by simp, fun k hk => by simp at hk⟩, rfl⟩
        · have hb : a = ⟨a.block, a.off, none⟩ := by cases a; simp at hsp; simp [hsp]
          rw [hb]
          exact .slice0 (rowsI_at rfl)
      · have hCc : a.off + cap * s ≤ C.size := by
          have e1 : (cap - 1) * s + s = cap * s := by
            obtain ⟨q, rfl⟩ : ∃ q, cap = q + 1 := ⟨cap - 1, by omega⟩
            rw [Nat.add_sub_cancel, Nat.add_mul, Nat.one_mul]
          have := (Array.getElem?_eq_some_iff.1 (hfit (cap - 1) (s - 1) (by omega) (by omega)).1).1
          omega
        have hCl : a.off + len * s ≤ C.size := by
          have := Nat.mul_le_mul_right s hl
          omega
        let r : Row := ⟨(List.range (len * s)).map fun k => C.getD (a.off + k) Go.undef, a.block, a.off, C.size⟩
        have hr : ∀ k, k < len * s → r.cells[k]? = C[a.off + k]? := fun k hk => by
          show ((List.range (len * s)).map fun k => C.getD (a.off + k) Go.undef)[k]? = _
          rw [List.getElem?_map, List.getElem?_range hk]
          have : a.off + k < C.size := by omega
          simp [Array.getD, this]
        have hrl : r.cells.length = len * s := by show ((List.range (len * s)).map _).length = _; simp
        refine ⟨[r], len, fun k j => (cc k).getD j Go.undef, ?_, fun k j hk hj => (hfit k j (by omega) hj).2, fun pre post => ⟨some ⟨pre.length, 0, none⟩, ?_, fun _ => rfl, fun k j hk hj => ?_⟩⟩
        · intro r' hr'
          simp only [List.mem_singleton] at hr'
          subst hr'
          refine ⟨⟨C, t', fz, hC, rfl, by rw [hrl]; exact hCl, fun k hk => (hr k (hrl ▸ hk)).symm⟩, ?_⟩
          rw [List.all_eq_true]
          intro v hv
          obtain ⟨k, hk⟩ := List.getElem?_of_mem hv
          have hkl := (List.getElem?_eq_some_iff.1 hk).1
          rw [hrl] at hkl
          rw [hr k hkl] at hk
          obtain ⟨q, j, rfl, h2, h3⟩ := key _ hkl
          obtain ⟨h4, h5⟩ := hfit q j (by omega) h3
          rw [h4] at hk; cases hk
          exact fits_flat h5
        · have hb : a = ⟨a.block, a.off + 0, none⟩ := by cases a; simp at hsp; simp [hsp]
          rw [hb]
          exact .slice (l := r.loc) (rowsI_at rfl) (Nat.le_refl _) hl (by show a.off + 0 + cap * 0 ≤ C.size; omega)
        · refine rowsH_cell (rows_get rfl) ?_
          have hlt : k * s + j < len * s := by
            have : (k + 1) * s ≤ len * s := Nat.mul_le_mul_right s hk
            rw [Nat.add_mul] at this; omega
          rw [hr _ hlt]
          exact (hfit k j (by omega) hj).1
    · cases hshape
end
end Go.Abs

/- Rows that are appended to; maps of numbers. -/
namespace Go.Abs
open Go
noncomputable section
variable {P : Program} {E : Env P}

theorem Kp.setN {A B : AHeap} (h : Kp A B) {x : Nat} {o o' : AObj} (hx : A.next ≤ x) (e : B.obj x = some o) : Kp A (B.set x o') :=
  ⟨h.low.trans (h.wf.set' e), fun j hj => by rw [AHeap.obj_set, if_neg (by omega)]; exact h.same j hj⟩
theorem Kp.putN {A B : AHeap} (h : Kp A B) {x off : Nat} {v : Value} (hx : A.next ≤ x) (e : B.own x off) : Kp A (B.put x off v) :=
  ⟨h.low.trans (B.low_put h.wf e), fun j hj => by rw [AHeap.obj_put_other (by omega)]; exact h.same j hj⟩

theorem fold_set (l : List Value) : ∀ (n off : Nat) (c : Array Value) (k : Nat),
    ((l.zipIdx n).foldl (fun (cs : Array Value) (p : Value × Nat) => cs.setIfInBounds (off + p.2) p.1) c)[k]? = if off + n ≤ k ∧ k < off + n + l.length ∧ k < c.size then l[k - (off + n)]? else c[k]? := by
  induction l with
  | nil => intro n off c k; simp; omega
  | cons x l ih =>
    intro n off c k
    rw [List.zipIdx_cons, List.foldl_cons, ih]
    simp only [Array.size_setIfInBounds, List.length_cons]
    by_cases h : off + (n + 1) ≤ k ∧ k < off + (n + 1) + l.length ∧ k < c.size
    · rw [if_pos h, if_pos (by omega)]
      obtain ⟨d, rfl⟩ : ∃ d, k = off + (n + 1) + d := ⟨k - (off + (n + 1)), by omega⟩
      rw [show off + (n + 1) + d - (off + (n + 1)) = d from by omega, show off + (n + 1) + d - (off + n) = d + 1 from by omega]
      simp
    · rw [if_neg h]
      by_cases e : k = off + n
      · subst e
        by_cases hk : off + n < c.size
        · rw [if_pos (by omega)]
          simp [hk]
        · rw [if_neg (by omega)]
          simp [hk]
      · rw [if_neg (by omega), Array.getElem?_setIfInBounds]
        rw [if_neg (by omega)]
theorem fill_one {s : Nat} {c : Array Value} {v : Value} (hc : c.size = s) (hv : v.cells.size = s) : Instr.fill (fun k => some (k * s, s)) c [(0, v)] = some v.cells := by
  unfold Instr.fill
  simp only
  rw [if_neg (by simp [hv]; omega)]
  unfold Instr.fill
  congr 1
  apply Array.ext_getElem?
  intro k
  rw [← Array.foldl_toList, Array.toList_zipIdx]
  have := fold_set v.cells.toList 0 (0 * s) c k
  rw [this]
  by_cases hk : k < s
  · rw [if_pos (by simp [hv]; omega)]
    simp
  · rw [if_neg (by simp [hv]; omega), Array.getElem?_eq_none (by omega), Array.getElem?_eq_none (by omega)]

theorem mkOf_inv {t s b : Nat} {z : Value} (h : mkOf E t = some (s, b, z)) :
    ∃ elem i, E.und t = some (.slice elem) ∧ E.inf elem = some i ∧ i.zero = some z ∧ z.cells.toList.all flat1 = true ∧ 0 < z.cells.size ∧ i.size = s ∧ i.bytes = b := by
  unfold mkOf at h
  split at h
  · rename_i elem hu
    split at h
    · rename_i i hi
      split at h
      · rename_i z' hz
        split at h
        · rename_i hf
          cases h
          simp only [Bool.and_eq_true, decide_eq_true_eq] at hf
          exact ⟨elem, i, hu, hi, hz, hf.1, hf.2, rfl, rfl⟩
        · cases h
      · cases h
    · cases h
  · cases h
theorem bs_one {t s b : Nat} {z : Value} (h : mkOf E t = some (s, b, z)) (h24 : s ≤ 2 ^ 24) {v : Value} (hv : v.cells.size = s) {A : AHeap} :
    aBuildSlice E t 1 [(0, v)] A = some (.slice (some ⟨A.next, 0, none⟩) 1 1, A.push (.cells false s s [] (T.ofList v.cells.toList))) := by
  obtain ⟨elem, i, hu, hi, hz, hf, h0, rfl, rfl⟩ := mkOf_inv h
  unfold aBuildSlice
  simp only [hu, hi, hz, Nat.one_mul]
  rw [if_pos (by simp only [Bool.and_eq_true, decide_eq_true_eq]; exact ⟨⟨h24, hf⟩, h0⟩), fill_one (by simp) hv]
  simp only
  rw [if_pos hv]

theorem range_cells (l : List Value) : (List.range l.length).map (fun k => cellAt [] (T.ofList l) (0 + k)) = l := by
  apply List.ext_getElem?
  intro k
  rw [List.getElem?_map]
  by_cases hk : k < l.length
  · rw [List.getElem?_range hk, List.getElem?_eq_getElem hk]
    simp only [Option.map_some, Nat.zero_add]
    unfold cellAt
    rw [T.get_ofList, List.getElem?_eq_getElem hk]
  · rw [List.getElem?_eq_none (by simpa using hk), List.getElem?_eq_none (by simpa using hk)]
    rfl

/-- A slice that was appended to: so many rows. -/
def SlAt (A : AHeap) (v : Value) (s : Nat) (row : Nat → List Value) (n lo : Nat) : Prop :=
  (n = 0 ∧ v = .slice none 0 0) ∨ (0 < n ∧ ∃ i, lo ≤ i ∧ v = .slice (some ⟨i, 0, none⟩) n n ∧ A.obj i = some (.cells false s (n * s) [] (T.ofList ((List.range n).flatMap row))))
theorem rows_length {row : Nat → List Value} {s n : Nat} (hr : ∀ k, k < n → (row k).length = s) : ((List.range n).flatMap row).length = n * s := by
  induction n with
  | zero => simp
  | succ n ih =>
    rw [List.range_succ, List.flatMap_append, List.length_append, ih fun k hk => hr k (by omega)]
    simp [hr n (by omega), Nat.add_mul]
theorem rows_get? {row : Nat → List Value} {s n : Nat} (hr : ∀ k, k < n → (row k).length = s) {k j : Nat} (hk : k < n) (hj : j < s) : ((List.range n).flatMap row)[k * s + j]? = (row k)[j]? := by
  induction n with
  | zero => omega
  | succ n ih =>
    rw [List.range_succ, List.flatMap_append]
    have hl := rows_length (n := n) fun k hk => hr k (by omega)
    by_cases h : k < n
    · have : (k + 1) * s ≤ n * s := Nat.mul_le_mul_right s h
      rw [Nat.add_mul] at this
      rw [List.getElem?_append_left (by omega)]
      exact ih (fun k hk => hr k (by omega)) h
    · obtain rfl : k = n := by omega
      rw [List.getElem?_append_right (by omega), hl]
      simp
theorem SlAt.len {A : AHeap} {v : Value} {s n lo : Nat} {row : Nat → List Value} (h : SlAt A v s row n lo) : ∃ b, v = .slice b n n ∧ (0 < n → ∃ i, b = some ⟨i, 0, none⟩ ∧ lo ≤ i) := by
  rcases h with ⟨rfl, rfl⟩ | ⟨h0, i, hi, rfl, _⟩
  · exact ⟨none, rfl, by omega⟩
  · exact ⟨_, rfl, fun _ => ⟨i, rfl, hi⟩⟩
theorem SlAt.cell {A : AHeap} {v : Value} {s n lo : Nat} {row : Nat → List Value} (h : SlAt A v s row n lo) (hr : ∀ k, k < n → (row k).length = s) (hn : 0 < n) :
    ∃ i, v = .slice (some ⟨i, 0, none⟩) n n ∧ lo ≤ i ∧ ∀ k j, k < n → j < s → A.cell i (k * s + j) = (row k)[j]? := by
  rcases h with ⟨rfl, rfl⟩ | ⟨h0, i, hi, rfl, ho⟩
  · omega
  · refine ⟨i, rfl, hi, fun k j hk hj => ?_⟩
    unfold AHeap.cell
    rw [ho]
    simp only
    have : (k + 1) * s ≤ n * s := Nat.mul_le_mul_right s hk
    rw [Nat.add_mul] at this
    rw [if_pos (by omega)]
    unfold cellAt
    rw [T.get_ofList, rows_get? hr hk hj, List.getElem?_eq_getElem (by rw [hr k hk]; exact hj)]
theorem SlAt.mono {A B : AHeap} {v : Value} {s n lo : Nat} {row : Nat → List Value} (h : SlAt A v s row n lo) (hk : ∀ i o, A.obj i = some o → B.obj i = some o) : SlAt B v s row n lo := by
  rcases h with h | ⟨h0, i, hi, e, ho⟩
  · exact .inl h
  · exact .inr ⟨h0, i, hi, e, hk _ _ ho⟩
theorem SlAt.kp {A B : AHeap} {v : Value} {s n lo : Nat} {row : Nat → List Value} (h : SlAt A v s row n lo) (hA : WF A) (hk : Kp A B) : SlAt B v s row n lo := h.mono fun _ _ e => hk.obj hA e

theorem app_one {t s b : Nat} {z : Value} (h : mkOf E t = some (s, b, z)) (hb : b ≤ 2 ^ 20) (hz : z.cells.size = s) {A : AHeap} {v : Value} {row : Nat → List Value} {n lo j : Nat} (hw : WF A)
    (hS : SlAt A v s row n lo) (hn : n < 2 ^ 20) (hlo : lo ≤ A.next) (hx : A.obj j = some (.cells false s s [] (T.ofList (row n)))) (hr : ∀ k, k ≤ n → (row k).length = s) (h1 : (row n).all Value.oneCell' = true) :
    ∃ v' A', aAppend E t t v (.slice (some ⟨j, 0, none⟩) 1 1) A = some (v', A') ∧ SlAt A' v' s row (n + 1) lo ∧ Low A A' ∧ ∀ q, q < lo → A'.obj q = A.obj q := by
  obtain ⟨elem, i, hu, hi, hz0, hf, h0, rfl, rfl⟩ := mkOf_inv h
  have hap : aAppended E t i (.slice (some ⟨j, 0, none⟩) 1 1) A = some (1, row n) := by
    unfold aAppended
    rw [hu]
    simp only [aFirst]
    rw [if_neg (by decide), hx]
    simp only
    rw [if_pos (by simp)]
    have := range_cells (row n)
    rw [hr n (Nat.le_refl _)] at this
    simp only [Nat.one_mul, this]
  have hs0 : 0 < i.size := by omega
  have hnb : (n + 1) * i.bytes ≤ 2 ^ 46 := Nat.le_trans (Nat.mul_le_mul (show n + 1 ≤ 2 ^ 20 by omega) hb) (by decide)
  have hcond : (decide (0 < i.size) && decide (i.bytes ≤ 2 ^ 30) && z.cells.toList.all flat1 && decide (z.cells.size = i.size) && decide ((row n).length = 1 * i.size) && (row n).all Value.oneCell') = true := by
    simp only [Bool.and_eq_true, decide_eq_true_eq]
    exact ⟨⟨⟨⟨⟨hs0, by omega⟩, hf⟩, hz⟩, by rw [hr n (Nat.le_refl _), Nat.one_mul]⟩, h1⟩
  unfold aAppend
  rw [hu]
  simp only [hi, hap, hz0]
  rw [if_pos hcond]
  rcases hS with ⟨rfl, rfl⟩ | ⟨h0', p, hp, rfl, ho⟩
  · simp only
    rw [if_neg (by decide), if_pos (by simp only [Bool.and_eq_true, decide_eq_true_eq]; omega)]
    refine ⟨_, _, rfl, .inr ⟨by omega, A.next, hlo, rfl, ?_⟩, hw.push' _, fun q hq => ?_⟩
    · rw [AHeap.obj_push, if_pos rfl]
      simp
    · rw [AHeap.obj_push, if_neg (by omega)]
  · simp only
    rw [if_neg (by decide), if_pos (by simp only [Bool.and_eq_true, decide_eq_true_eq]; omega), if_neg (by simp), ho]
    simp only
    rw [if_neg (by omega), if_pos (by simp)]
    refine ⟨_, _, rfl, .inr ⟨by omega, A.next, hlo, rfl, ?_⟩, hw.setPush ho, fun q hq => ?_⟩
    · rw [AHeap.obj_push, if_pos (by simp)]
      have hl := rows_length (n := n) fun k hk => hr k (by omega)
      have := range_cells ((List.range n).flatMap row)
      rw [hl] at this
      rw [this, List.range_succ, List.flatMap_append]
      simp
    · have := hw.lt ho
      rw [AHeap.obj_push, if_neg (by simp; omega), AHeap.obj_set, if_neg (by omega)]

/-! ### Maps of numbers: who is in -/
def MpAt (A : AHeap) (i : Nat) (ks : List Int) : Prop := A.obj i = some (.map (ks.map fun a => (iv a, .bool true)))
theorem find_in {a : Int} : ∀ (ks : List Int) (n : Nat), if a ∈ ks then ∃ q, aFind (iv a) (ks.map fun a => (iv a, .bool true)) n = some (some (q, .bool true)) else aFind (iv a) (ks.map fun a => (iv a, .bool true)) n = some none
  | [], n => by simp [aFind]
  | b :: ks, n => by
    have ih := find_in (a := a) ks (n + 1)
    by_cases h : a = b
    · subst h
      simp [aFind, sameKey, iv]
    · have hs : sameKey (iv a) (iv b) = some false := by simp [sameKey, iv, h]
      have e : aFind (iv a) ((b :: ks).map fun a => (iv a, .bool true)) n = aFind (iv a) (ks.map fun a => (iv a, .bool true)) (n + 1) := by
        simp only [List.map_cons, aFind, hs]
      simp only [List.mem_cons, h, false_or, e]
      exact ih
/-- A map's types. -/
def mapOf (E : Env P) (t : Nat) : Option (TypeDesc × Option Value) := match E.und t with
  | some (.map kt et) => match E.und kt, E.inf et with
    | some kd, some i => some (kd, i.zero)
    | _, _ => none
  | _ => none
theorem lk_eq {t : Nat} (h : mapOf E t = some (.int .i64, some (.bool false))) {A : AHeap} {i : Nat} {ks : List Int} (hm : MpAt A i ks) {a : Int} : aLookup E t (.map (some i)) (iv a) false A = some (.bool (decide (a ∈ ks))) := by
  unfold mapOf at h
  split at h
  · rename_i kt et hu
    split at h
    · rename_i kd info hk hi
      simp only [Option.some.injEq, Prod.mk.injEq] at h
      obtain ⟨rfl, hz⟩ := h
      unfold aLookup
      simp only [hu, hk, hi, hz]
      have e : A.obj i = _ := hm
      rw [if_pos (by rfl), e]
      simp only
      have := find_in (a := a) ks 0
      by_cases hin : a ∈ ks
      · rw [if_pos hin] at this
        obtain ⟨q, hq⟩ := this
        simp [hq, hin]
      · rw [if_neg hin] at this
        simp [this, hin]
    · cases h
  · cases h
theorem mu_eq {t : Nat} (h : mapOf E t = some (.int .i64, some (.bool false))) {A : AHeap} {i : Nat} {ks : List Int} (hm : MpAt A i ks) {a : Int} (ha : a ∉ ks) :
    aMapUpdate E t (.map (some i)) (iv a) (.bool true) A = some (A.set i (.map ((ks ++ [a]).map fun a => (iv a, .bool true)))) := by
  unfold mapOf at h
  split at h
  · rename_i kt et hu
    split at h
    · rename_i kd info hk hi
      simp only [Option.some.injEq, Prod.mk.injEq] at h
      obtain ⟨rfl, hz⟩ := h
      unfold aMapUpdate
      simp only [hu, hk]
      have e : A.obj i = _ := hm
      rw [if_pos (by rfl), e]
      simp only
      have := find_in (a := a) ks 0
      rw [if_neg ha] at this
      simp only [aMapPut, this]
      simp
    · cases h
  · cases h
end
end Go.Abs
