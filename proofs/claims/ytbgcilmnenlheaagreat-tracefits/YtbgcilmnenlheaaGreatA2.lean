/- append and copy. -/
import Derived.Test.YtbgcilmnenlheaaGreatA1
import Derived.Laws.StructEq
set_option linter.unusedSimpArgs false
set_option linter.unusedVariables false
namespace Go.Abs
open Go
variable {P : Program}

/-- What is appended: n elements' cells. -/
def aAppended (E : Env P) (tx : TypeId) (elem : TypeInfo) (x : Value) (A : AHeap) : Option (Nat × List Value) :=
  match E.und tx with
  | some (.int _) => match natOf x, elem.zero with
    | some n, some z => if n ≤ 2 ^ 24 && elem.bytes * n ≤ 2 ^ 40 && z.cells.toList.all flat1 && (0 < z.cells.size) && z.cells.size = elem.size && (0 < elem.size) then some (n, (List.range (n * elem.size)).map (zeroCell z)) else none
    | _, _ => none
  | some .string => none
  | some _ => match x with
    | .slice _ n _ => match aFirst elem.size n x A with
      | some l => some (n, l)
      | none => none
    | _ => none
  | none => none

/-- append: within what is known of the capacity it stores; else the elder row is gone, and there is another. -/
def aAppend (E : Env P) (t tx : TypeId) (s x : Value) (A : AHeap) : Option (Value × AHeap) :=
  match E.und t with
  | some (.slice elem) => match E.inf elem with
    | some info => match aAppended E tx info x A, info.zero with
      | some (n, new), some z =>
        if (0 < info.size) && info.bytes ≤ 2 ^ 30 && z.cells.toList.all flat1 && z.cells.size = info.size && new.length = n * info.size && new.all Value.oneCell' then
          (match s with
          | .slice none 0 0 =>
            if n = 0 then some (s, A)
            else if n * info.bytes ≤ 2 ^ 46 && n ≤ 2 ^ 46 then some (.slice (some ⟨A.next, 0, none⟩) n n, A.push (.cells false info.size (n * info.size) [] (T.ofList new))) else none
          | .slice (some ⟨i, off, sp⟩) len c =>
            if n = 0 then some (s, A)
            else if (len + n) * info.bytes ≤ 2 ^ 46 && len + n ≤ 2 ^ 46 then
              (if sp.isSome then (if len = 0 && c = 0 then some (.slice (some ⟨A.next, 0, none⟩) n n, A.push (.cells false info.size (n * info.size) [] (T.ofList new))) else none)
              else match A.obj i with
                | some (.cells false es m z' cc) =>
                  if len + n ≤ c then
                    (if off + (len + n) * info.size ≤ m then some (.slice (some ⟨i, off, none⟩) (len + n) c, A.set i (.cells false es m z' (cc.putList (off + len * info.size) new))) else none)
                  else if es = info.size && len ≤ c && off + len * info.size ≤ m then
                    some (.slice (some ⟨A.next, 0, none⟩) (len + n) (len + n),
                      (A.set i .dead).push (.cells false info.size ((len + n) * info.size) [] (T.ofList (((List.range (len * info.size)).map fun k => cellAt z' cc (off + k)) ++ new))))
                  else none
                | _ => none)
            else none
          | _ => none)
        else none
      | _, _ => none
    | none => none
  | _ => none

def intD : TypeDesc → Bool
  | .int _ => true
  | _ => false
theorem notInt {d : TypeDesc} (h : ∀ k, d = .int k → False) : intD d = false := by
  cases d <;> first | rfl | exact absurd rfl (fun e => h _ e)

theorem aAppended_sim {E : Env P} {tx : TypeId} {info : TypeInfo} {x x' : Value} {A : AHeap} {n : Nat} {new : List Value} {ι : Inj} {w : World}
    (h : aAppended E tx info x A = some (n, new)) {z : Value} (hz0 : info.zero = some z) (hx : VR ι x x') (hr : Real ι A w) :
    ∃ d new' zeros, P.underlying tx = some d ∧ zeros = intD d ∧ VRs ι new.toArray new' ∧
      (zeros = true → ∃ kd m, x' = .int kd m ∧ IntKind.i64.wrap m = (n : Int) ∧ (n : Int) * info.bytes ≤ 2 ^ 48) ∧
      (zeros = false → ∀ w', w'.heap = w.heap → (Builtin.lenOf x').run P w' = .ok n w' ∧ (Builtin.firstCells info.size n x').run P w' = .ok new' w') ∧
      (zeros = true → new' = if n * info.size = 0 then #[] else Builtin.zeroCells z.cells n) := by
  unfold aAppended at h
  split at h
  · rename_i k hu
    split at h
    · rename_i m z' e1 hz
      split at h
      · rename_i hc
        simp only [Bool.and_eq_true, decide_eq_true_eq] at hc
        obtain ⟨⟨⟨⟨⟨c1, c2⟩, c3⟩, c4⟩, c5⟩, c6⟩ := hc
        cases h
        obtain ⟨kd, q, rfl, p0, rfl⟩ := natOf_inv e1
        obtain rfl := hx.int_inv
        refine ⟨_, ((List.range (q.toNat * info.size)).map (zeroCell z')).toArray, true, E.und_ok _ _ hu, rfl, (VRl.map_range fun k _ => zeroCell_VR c3 c4 k).to_array, fun _ => ⟨kd, q, rfl, ?_, ?_⟩, by simp, fun _ => ?_⟩
        · rw [wrap64_small p0 (by omega)]; omega
        · have : ((info.bytes * q.toNat : Nat) : Int) ≤ 2 ^ 40 := by omega
          rw [Int.natCast_mul, Int.mul_comm] at this
          omega
        · rw [hz0] at hz; cases hz
          by_cases hn : q.toNat * info.size = 0
          · rw [if_pos hn]; simp [hn]
          · rw [if_neg hn]
            symm
            apply Array.ext'
            simp only [Builtin.zeroCells, Array.toList_map, Array.toList_range, c5]
            refine List.map_congr_left fun k _ => ?_
            rw [← zeroCell_eq z c4 k, c5]
      · cases h
    · cases h
  · cases h
  · rename_i d hd1 hd2 hu
    split at h
    · rename_i a m c
      split at h
      · rename_i l hl
        cases h
        obtain ⟨l', r1, r2⟩ := aFirst_sim (P := P) hl hx hr
        obtain ⟨a', c', rfl, _⟩ := hx.slice_len
        exact ⟨d, l', false, E.und_ok _ _ hu, (notInt hd1).symm, r2, by simp, fun _ w' hw => ⟨by simp [Builtin.lenOf], r1 w' hw⟩, by simp⟩
      · cases h
    · cases h
  · cases h

theorem growBy_le (need : Nat) : ∀ (r c : Nat), Builtin.growBy need r c ≤ max c (need + (need + 768) / 4)
  | 0, c => by simp only [Builtin.growBy]; omega
  | r + 1, c => by
    simp only [Builtin.growBy]
    split
    · omega
    · have := growBy_le need r (c + (c + 768) / 4)
      omega

theorem nextslicecap_le (need cap : Nat) (h : cap < need) : Builtin.nextslicecap need cap ≤ 2 * need + 512 := by
  unfold Builtin.nextslicecap
  split
  · omega
  · split
    · omega
    · have := growBy_le need 4 cap
      omega

set_option maxHeartbeats 2000000 in
/-- The concrete append, where it stays in its block. -/
theorem run_append_in {t tx ty elem : TypeId} {info : TypeInfo} {z : Value} {x' : Value} {base : Option Addr} {len cap n : Nat} {new' : Array Value} {d : TypeDesc} {zeros : Bool} {w : World} {ts : Array TypeId}
    (ht : ts = #[t, tx]) (hu : P.underlying t = some (.slice elem)) (hi : P.info? elem = some info) (hz0 : info.zero = some z) (hd : P.underlying tx = some d) (hz : zeros = intD d)
    (h1 : zeros = true → ∃ kd m, x' = .int kd m ∧ IntKind.i64.wrap m = (n : Int) ∧ (n : Int) * info.bytes ≤ 2 ^ 48)
    (h2 : zeros = false → (Builtin.lenOf x').run P w = .ok n w ∧ (Builtin.firstCells info.size n x').run P w = .ok new' w)
    (h3 : zeros = true → new' = if n * info.size = 0 then #[] else Builtin.zeroCells z.cells n)
    (hc : len + n ≤ cap) : (Builtin.append_ ts ty #[.slice base len cap, x']).run P w =
      ((match base with
        | some a => storeCells (a.add (len * info.size)) new'.toList
        | none => pure ()).run P w).andThen fun _ w' => .ok (.slice base (len + n) cap) w' := by
  subst ht
  cases zeros with
  | true =>
    obtain ⟨kd, m, rfl, hm, hb⟩ := h1 rfl
    have h3' := h3 rfl
    have c1 : ¬ ((n : Int) < 0) := by omega
    have c2 : ¬ (281474976710656 < (n : Int) * info.bytes) := by omega
    cases d <;> simp only [intD, Bool.true_eq_false] at hz
    by_cases hn : n * info.size = 0
    · rw [if_pos hn] at h3'
      subst h3'
      simp [Builtin.append_, run_underlying hu, run_underlying hd, run_sizeOf hi, run_typeInfo hi, asInt, asIntOf, hm, c1, c2, hc, hn]
      cases base <;> simp
    · rw [if_neg hn] at h3'
      subst h3'
      simp [Builtin.append_, run_underlying hu, run_underlying hd, run_sizeOf hi, run_typeInfo hi, asInt, asIntOf, hm, c1, c2, hc, hn, run_zeroValue hi hz0]
      cases base <;> simp
  | false =>
    obtain ⟨h2a, h2b⟩ := h2 rfl
    cases d <;> first
      | (simp only [intD, Bool.false_eq_true] at hz; done)
      | (simp [Builtin.append_, run_underlying hu, run_underlying hd, run_sizeOf hi, run_typeInfo hi, h2a, h2b, hc]; cases base <;> simp)

set_option maxHeartbeats 2000000 in
/-- The concrete append, where another block is made. -/
theorem run_append_out {t tx ty elem : TypeId} {info : TypeInfo} {z : Value} {x' : Value} {base : Option Addr} {len cap n : Nat} {old' new' : Array Value} {d : TypeDesc} {zeros : Bool} {w : World} {ts : Array TypeId}
    (ht : ts = #[t, tx]) (hu : P.underlying t = some (.slice elem)) (hi : P.info? elem = some info) (hz0 : info.zero = some z) (hd : P.underlying tx = some d) (hz : zeros = intD d)
    (h1 : zeros = true → ∃ kd m, x' = .int kd m ∧ IntKind.i64.wrap m = (n : Int) ∧ (n : Int) * info.bytes ≤ 2 ^ 48)
    (h2 : zeros = false → ∀ w', w'.heap = w.heap → (Builtin.lenOf x').run P w' = .ok n w' ∧ (Builtin.firstCells info.size n x').run P w' = .ok new' w')
    (h3 : zeros = true → new' = if n * info.size = 0 then #[] else Builtin.zeroCells z.cells n)
    (h4 : ∀ w', w'.heap = w.heap → (Builtin.firstCells info.size len (.slice base len cap)).run P w' = .ok old' w')
    (hc : cap < len + n) (hb : (len + n) * info.bytes ≤ 2 ^ 46) (hs : len + n ≤ 2 ^ 46) (hbb : info.bytes ≤ 2 ^ 30) :
    ∃ C, len + n ≤ C ∧ (Builtin.append_ ts ty #[.slice base len cap, x']).run P w =
      .ok (.slice (some ⟨w.heap.size, 0, none⟩) (len + n) C) (w.drew.alloc (.cells (old' ++ (new' ++ Builtin.zeroCells z.cells (C - (len + n)))) elem)) := by
  subst ht
  have hcap : ¬ (len + n ≤ cap) := by omega
  have hmax : ¬ (9223372036854775807 < (len : Int) + (n : Int)) := by omega
  have hnx : ¬ (281474976710656 < Builtin.nextslicecap (len + n) cap * info.bytes) := by
    have h5 := nextslicecap_le (len + n) cap hc
    have h6 : Builtin.nextslicecap (len + n) cap * info.bytes ≤ (2 * (len + n) + 512) * info.bytes := Nat.mul_le_mul_right _ h5
    rw [Nat.add_mul, Nat.mul_assoc] at h6
    omega
  have hf : (Question.appendCap (len + n) cap elem).forced = false := rfl
  have h4' := h4 w.drew rfl
  refine ⟨(Question.appendCap (len + n) cap elem).cut (w.tape w.drawn (Question.appendCap (len + n) cap elem)), by simp [Question.cut], ?_⟩
  generalize hC : (Question.appendCap (len + n) cap elem).cut (w.tape w.drawn (Question.appendCap (len + n) cap elem)) = C
  cases zeros with
  | true =>
    obtain ⟨kd, m, rfl, hm, hbb⟩ := h1 rfl
    have h3' := h3 rfl
    have c1 : ¬ ((n : Int) < 0) := by omega
    have c2 : ¬ (281474976710656 < (n : Int) * info.bytes) := by omega
    cases d <;> simp only [intD, Bool.true_eq_false] at hz
    by_cases hn : n * info.size = 0
    · rw [if_pos hn] at h3'
      subst h3'
      simp [Builtin.append_, run_underlying hu, run_underlying hd, run_sizeOf hi, run_typeInfo hi, run_zeroValue hi hz0, asInt, asIntOf, hm, c1, c2, hcap, hmax, hnx, hf, h4', hn, newRow, hC]
    · rw [if_neg hn] at h3'
      subst h3'
      simp [Builtin.append_, run_underlying hu, run_underlying hd, run_sizeOf hi, run_typeInfo hi, run_zeroValue hi hz0, asInt, asIntOf, hm, c1, c2, hcap, hmax, hnx, hf, h4', hn, newRow, hC]
  | false =>
    have h2a := h2 rfl w rfl
    have h2b := h2 rfl w.drew rfl
    cases d <;> first
      | (simp only [intD, Bool.false_eq_true] at hz; done)
      | (simp [Builtin.append_, run_underlying hu, run_underlying hd, run_sizeOf hi, run_typeInfo hi, run_zeroValue hi hz0, h2a.1, h2b.2, hcap, hmax, hnx, hf, h4', newRow, hC]; done)

end Go.Abs

/- append and copy over the abstract heap. -/
namespace Go.Abs
open Go
variable {P : Program}

/-- A row that is appended to in its own block: the elder object is gone, a new one lies there. -/
theorem Real.moveIn {ι : Inj} {A : AHeap} {w w' : World} (h : Real ι A w) {i es n n' off : Nat} {z z' : List Value} {c c' : T Value} {l : Loc} (hi : A.obj i = some (.cells false es n z c)) (hl : ι i = some l) (hnew : ι A.next = none)
    (hs : w'.heap.size = w.heap.size) (hb : ∀ b, b ≠ l.blk → w'.heap[b]? = w.heap[b]?) (hos : w'.os = w.os ∧ w'.output = w.output ∧ w'.tape = w.tape)
    (ho : CellsRel ι false es n' z' c' ⟨l.blk, l.sh + off, l.lim, es⟩ w') :
    Real (ι.put A.next ⟨l.blk, l.sh + off, l.lim, es⟩) ((A.set i .dead).push (.cells false es n' z' c')) w' ∧
    Ext ι A w (ι.put A.next ⟨l.blk, l.sh + off, l.lim, es⟩) ((A.set i .dead).push (.cells false es n' z' c')) w' := by
  obtain ⟨r1, x1⟩ := h.turn (o' := .dead) hi rfl hl hs hb hos (by simp) trivial (fun _ a ha => ObjRel.cold (o := .cells false es n' z' c') (l := ⟨l.blk, l.sh + off, l.lim, es⟩) (ι := ι.put A.next ⟨l.blk, l.sh + off, l.lim, es⟩) (CellsRel.mono (Inj.le_put hnew) rfl ho) rfl a ha)
  have hle : ι.le (ι.put A.next ⟨l.blk, l.sh + off, l.lim, es⟩) := Inj.le_put hnew
  have hold : ∀ j, j ≠ A.next → (ι.put A.next ⟨l.blk, l.sh + off, l.lim, es⟩) j = ι j := fun j hj => Inj.put_other _ _ hj
  have objs : ∀ j o', ((A.set i .dead).push (.cells false es n' z' c')).obj j = some o' → (j = A.next ∧ o' = .cells false es n' z' c') ∨ (j ≠ A.next ∧ (A.set i .dead).obj j = some o') := fun j o' e => by
    rw [AHeap.obj_push, AHeap.next_set] at e
    by_cases hj : j = A.next
    · rw [if_pos hj] at e; cases e; exact .inl ⟨hj, rfl⟩
    · rw [if_neg hj] at e; exact .inr ⟨hj, e⟩
  -- nobody else lies in the block
  have free : ∀ j o' l', (A.set i .dead).obj j = some o' → (o'.owned = true ∨ ∃ es n z c, o' = .cells true es n z c) → ι j = some l' → l'.blk ≠ l.blk := fun j o' l' e hw hj eb => by
    rw [AHeap.obj_set] at e
    by_cases hji : j = i
    · rw [if_pos hji] at e; cases e; simp [AObj.owned] at hw
    · rw [if_neg hji] at e
      exact hji (h.sep i j _ o' l l' hi e rfl hw hl hj eb.symm).symm
  refine ⟨⟨?_, ?_, ?_⟩, ⟨hle, by simp, by omega, ?_, ?_, ?_, hos, fun j es' n'' z'' c'' e => by
    rcases objs j _ e with ⟨_, e'⟩ | ⟨_, e'⟩
    · cases e'
    · rw [AHeap.obj_set] at e'
      by_cases hji : j = i
      · rw [if_pos hji] at e'; cases e'
      · rw [if_neg hji] at e'; exact e', x1.fz⟩⟩
  · intro j o' e
    rcases objs j o' e with ⟨rfl, rfl⟩ | ⟨hj, e⟩
    · exact ⟨_, Inj.put_same _ _ _, CellsRel.mono hle rfl ho⟩
    · obtain ⟨l', hl', hr⟩ := r1.loc j o' e
      exact ⟨l', hle _ _ hl', hr.mono hle rfl⟩
  · intro j l' e
    by_cases hj : j = A.next
    · subst hj; rw [Inj.put_same] at e; cases e
      exact (r1.dom _ _ hl : l.blk < w'.heap.size)
    · rw [hold j hj] at e
      exact r1.dom _ _ e
  · intro j k o₁ o₂ l₁ l₂ e₁ e₂ w₁ w₂ k₁ k₂ eb
    rcases objs j o₁ e₁ with ⟨hj, q₁⟩ | ⟨hj, e₁⟩ <;> rcases objs k o₂ e₂ with ⟨hk, q₂⟩ | ⟨hk, e₂⟩
    · rw [hj, hk]
    · subst hj; rw [Inj.put_same] at k₁; cases k₁
      rw [hold k hk] at k₂
      exact absurd eb.symm (free k o₂ l₂ e₂ w₂ k₂)
    · subst hk; rw [Inj.put_same] at k₂; cases k₂
      rw [hold j hj] at k₁
      exact absurd eb (free j o₁ l₁ e₁ (.inl w₁) k₁)
    · rw [hold j hj] at k₁; rw [hold k hk] at k₂
      exact r1.sep j k o₁ o₂ l₁ l₂ e₁ e₂ w₁ w₂ k₁ k₂ eb
  · intro j l' e e'
    by_cases hj : j = A.next
    · simp; omega
    · rw [hold j hj, e] at e'; cases e'
  · exact x1.keep
  · intro j o' l' e hw k hk
    rcases objs j o' e with ⟨rfl, rfl⟩ | ⟨hj, e⟩
    · rw [Inj.put_same] at k; cases k
      exact ⟨i, _, l, hi, rfl, hl, rfl⟩
    · rw [hold j hj] at k
      exact x1.own j o' l' e hw k hk

/-- An object is forgotten. -/
theorem Real.forget {ι : Inj} {A : AHeap} {w : World} (h : Real ι A w) {i : Nat} {o : AObj} (hi : A.obj i = some o) : Real ι (A.set i .dead) w ∧ Ext ι A w ι (A.set i .dead) w := by
  have objs : ∀ j p, (A.set i .dead).obj j = some p → p = .dead ∨ A.obj j = some p := fun j p e => by
    rw [AHeap.obj_set] at e
    by_cases hj : j = i
    · rw [if_pos hj] at e; cases e; exact .inl rfl
    · rw [if_neg hj] at e; exact .inr e
  have loc : ∀ j p, (A.set i .dead).obj j = some p → ∃ l, ι j = some l ∧ ObjRel ι p l w := fun j p e => by
    rw [AHeap.obj_set] at e
    by_cases hj : j = i
    · rw [if_pos hj] at e; cases e
      obtain ⟨l, hl, _⟩ := h.loc i o hi
      exact ⟨l, hj ▸ hl, trivial⟩
    · rw [if_neg hj] at e; exact h.loc j p e
  refine ⟨⟨loc, h.dom, ?_⟩, ⟨ι.le_refl, Nat.le_refl _, Nat.le_refl _, fun j l e e' => (by rw [e] at e'; cases e'), fun _ _ _ => rfl, ?_, ⟨rfl, rfl, rfl⟩, fun j es n z c e => by
    rw [AHeap.obj_set] at e
    by_cases hj : j = i
    · rw [if_pos hj] at e; cases e
    · rw [if_neg hj] at e; exact e, fun _ => rfl⟩⟩
  · intro j k o₁ o₂ l₁ l₂ e₁ e₂ w₁ w₂ k₁ k₂ eb
    rcases objs j o₁ e₁ with q | q
    · subst q; simp [AObj.owned] at w₁
    · rcases objs k o₂ e₂ with q' | q'
      · subst q'; simp [AObj.owned] at w₂
      · exact h.sep j k o₁ o₂ l₁ l₂ q q' w₁ w₂ k₁ k₂ eb
  · intro j p l' e hp k _
    rcases objs j p e with q | q
    · subst q; simp [AObj.owned] at hp
    · exact ⟨j, p, l', q, hp, k, rfl⟩

theorem VR.nilSlice_inv {ι : Inj} {v' : Value} (h : VR ι (.slice none 0 0) v') : v' = .slice none 0 0 := by cases h; rfl

theorem aAppend_sim {E : Env P} {t tx ty : TypeId} {s s' x x' v : Value} {A A' : AHeap} {ι : Inj} {w : World} {ts : Array TypeId} (ht : ts = #[t, tx]) (h : aAppend E t tx s x A = some (v, A'))
    (hs : VR ι s s') (hx : VR ι x x') (hr : Real ι A w) (hF : Fresh ι A A') : SimV P (Builtin.append_ ts ty #[s', x']) ι A w v A' := by
  unfold aAppend at h
  split at h
  · rename_i elem hu
    split at h
    · rename_i info hinf
      have hu' := E.und_ok _ _ hu
      have hi' := E.inf_ok _ _ hinf
      split at h
      · rename_i n new z happ hz
        obtain ⟨d, new', zeros, hd, hzeros, hnew, h1, h2, h3⟩ := aAppended_sim happ hz hx hr
        split at h
        · rename_i hcond
          simp only [Bool.and_eq_true, decide_eq_true_eq] at hcond
          obtain ⟨⟨⟨⟨⟨q1, q2⟩, q3⟩, q4⟩, q5⟩, q6⟩ := hcond
          have hns : new'.size = n * info.size := by have := hnew.1; simp at this; omega
          -- a new block, of what the elder row held and what is appended
          have out : ∀ (old : List Value) (base : Option Addr) (len cap : Nat) (old' : Array Value), VRs ι old.toArray old' → old.length = len * info.size →
              (∀ w', w'.heap = w.heap → (Builtin.firstCells info.size len (.slice base len cap)).run P w' = .ok old' w') → cap < len + n → (len + n) * info.bytes ≤ 2 ^ 46 → len + n ≤ 2 ^ 46 →
              ι A.next = none → ∀ B, Real ι B w → Ext ι A w ι B w → B.next = A.next → 
              SimV P (Builtin.append_ ts ty #[.slice base len cap, x']) ι A w (.slice (some ⟨A.next, 0, none⟩) (len + n) (len + n)) (B.push (.cells false info.size ((len + n) * info.size) [] (T.ofList (old ++ new)))) := by
            intro old base len cap old' ho hol h4 hc hb hs hnw B hB hX hBn
            obtain ⟨C, hC, hrun⟩ := run_append_out (ty := ty) ht hu' hi' hz hd hzeros h1 h2 h3 h4 hc hb hs q2
            have hw0 : w.drew.heap = w.heap := rfl
            obtain ⟨d1, d2⟩ := hB.world (w' := w.drew) rfl ⟨rfl, rfl, rfl⟩
            have hos := ho.1
            simp at hos
            obtain ⟨r1, r2⟩ := d1.newRow (by rw [hBn]; exact hnw) elem info.size (n := (len + n) * info.size) (z := []) (c := T.ofList (old ++ new))
              (C := old' ++ (new' ++ Builtin.zeroCells z.cells (C - (len + n)))) (by simp [hns, Nat.add_mul]; omega)
              (fun k hk => by
                have hall := ho.append hnew
                have hk' : k < (old ++ new).length := by simp [hol, q5, ← Nat.add_mul]; exact hk
                rw [cellAt_ofList _ _ _ hk']
                have hk2 : k < (old' ++ new').size := by simp [hns]; simp [Nat.add_mul] at hk; omega
                refine ⟨(old' ++ new')[k], ?_, ?_⟩
                · rw [← Array.append_assoc, Array.getElem?_append_left hk2]; simp [hk2]
                · have := hall.2 k (by simpa using hk') hk2
                  simpa using this)
            rw [hBn] at r1 r2
            refine ⟨_, _, _, hrun, ?_, r1, hX.trans (d2.trans r2)⟩
            refine VR.slice (l := ⟨w.heap.size, 0, _, info.size⟩) (Inj.put_same _ _ _) (Nat.le_refl _) hC ?_
            simp only [Array.size_append, hns, ← hos, hol, Builtin.zeroCells, Array.size_map, Array.size_range, q4, ← Nat.add_mul, Nat.zero_add]
            refine Nat.mul_le_mul_right _ ?_
            omega
          have hcomb : ∀ {y : Option Addr} {q c : Nat}, n = 0 → VR ι (.slice y q c) s' → (∃ a' c', s' = .slice a' q c' ∧ q ≤ c') → SimV P (Builtin.append_ ts ty #[s', x']) ι A w (.slice y q c) A := by
            intro y q c hn hv hq
            subst hn
            obtain ⟨a', c', rfl, hq⟩ := hq
            have hrun := run_append_in (P := P) (ty := ty) (base := a') (len := q) (cap := c') ht hu' hi' hz hd hzeros h1 (fun e => h2 e w rfl) h3 (by omega)
            have hnil : new' = #[] := Array.eq_empty_of_size_eq_zero (by omega)
            refine SimV.pure (v' := .slice a' q c') hr ?_ hv
            rw [hrun, hnil]
            cases a' <;> simp [storeCells]
          split at h
          · split at h
            · rename_i hn
              cases h
              obtain rfl := hs.nilSlice_inv
              exact hcomb hn .nilSlice ⟨_, _, rfl, Nat.le_refl _⟩
            · split at h
              · rename_i hn hb
                simp only [Bool.and_eq_true, decide_eq_true_eq] at hb
                cases h
                obtain rfl := hs.nilSlice_inv
                have := out [] none 0 0 #[] .nil (by simp) (fun w' _ => by simp [Builtin.firstCells]) (by omega) (by simpa using hb.1) (by simpa using hb.2) (hF _ (Nat.le_refl _) (by simp)) A hr (Ext.refl _ _ _) rfl
                simpa using this
              · cases h
          · rename_i i off sp len c
            split at h
            · rename_i hn
              cases h
              obtain ⟨a', c', rfl, hc⟩ := hs.slice_len
              refine hcomb hn hs ⟨a', c', rfl, ?_⟩
              cases hs <;> omega
            · rename_i hn
              split at h
              · rename_i hb
                simp only [Bool.and_eq_true, decide_eq_true_eq] at hb
                split at h
                · split at h
                  · rename_i hsp hlc
                    simp only [Bool.and_eq_true, decide_eq_true_eq] at hlc
                    cases h
                    obtain ⟨rfl, rfl⟩ := hlc
                    cases hs with
                    | slice hl => simp at hsp
                    | slice0 hl => simp at hsp
                    | sliceZ hl =>
                      rename_i o' l
                      have := out [] (some ⟨l.blk, o', none⟩) 0 0 #[] .nil (by simp) (fun w' _ => by simp only [Builtin.firstCells, Nat.zero_mul]; exact run_loadCells0) (by omega) (by simpa using hb.1) (by simpa using hb.2) (hF _ (Nat.le_refl _) (by simp)) A hr (Ext.refl _ _ _) rfl
                      simpa using this
                  · cases h
                · rename_i hsp
                  split at h
                  · rename_i es m z' cc hobj
                    obtain rfl : sp = none := by cases sp <;> simp_all
                    have hone : ∀ v ∈ new, v.oneCell' = true := by simpa using q6
                    have hnl : VRl ι new new'.toList := by simpa using hnew.to_list
                    split at h
                    · rename_i hin
                      split at h
                      · rename_i hfit
                        cases h
                        cases hs with
                        | slice0 hl => omega
                        | slice hl hlc hcc hlim =>
                          rename_i c' l
                          have hrun := run_append_in (P := P) (ty := ty) (base := some ⟨l.blk, l.sh + off, none⟩) (len := len) (cap := c') ht hu' hi' hz hd hzeros h1 (fun e => h2 e w rfl) h3 (by omega)
                          obtain ⟨w', r1, r2, r3⟩ := hr.store (P := P) hobj hl (off := off + len * info.size) (vs := new) (vs' := new'.toList) (by rw [q5, Nat.add_assoc, ← Nat.add_mul]; exact hfit) hnl hone
                          refine ⟨ι, w', _, ?_, VR.slice hl hin hcc hlim, r2, r3⟩
                          rw [hrun]
                          simp only [addr_add, Nat.add_assoc] at r1 ⊢
                          rw [r1]; rfl
                      · cases h
                    · rename_i hin
                      split at h
                      · rename_i hfit
                        simp only [Bool.and_eq_true, decide_eq_true_eq] at hfit
                        obtain ⟨⟨rfl, hlc⟩, hfit⟩ := hfit
                        cases h
                        have hcell := hr.cells hobj
                        cases hs with
                        | slice0 hl =>
                          rename_i o' l
                          obtain ⟨f1, f2⟩ := hr.forget hobj
                          have := out [] (some ⟨l.blk, o', none⟩) 0 0 #[] .nil (by simp) (fun w' _ => by simp only [Builtin.firstCells, Nat.zero_mul]; exact run_loadCells0) (by omega) (by simpa using hb.1) (by simpa using hb.2) (hF _ (Nat.le_refl _) (by simp)) _ f1 f2 rfl
                          simpa using this
                        | slice hl hlc' hcc hlim =>
                          rename_i c' l
                          obtain ⟨l', hl', hcr⟩ := hcell
                          rw [hl] at hl'; cases hl'
                          by_cases hroom : len + n ≤ c'
                          · have hrun := run_append_in (P := P) (ty := ty) (base := some ⟨l.blk, l.sh + off, none⟩) (len := len) (cap := c') ht hu' hi' hz hd hzeros h1 (fun e => h2 e w rfl) h3 hroom
                            obtain ⟨C, ct, fz, hblk, hf, ⟨hlm, _⟩, hsz, hcs⟩ := hcr
                            obtain ⟨rfl, hes⟩ := hf rfl
                            have hmul : (len + n) * info.size ≤ c' * info.size := Nat.mul_le_mul_right _ hroom
                            rw [hes, hlm] at hlim
                            rw [Nat.add_mul] at hmul
                            obtain ⟨w', C', s1, s2, s3, s4, s5, s6, s7⟩ := run_storeCells (P := P) (b := l.blk) (o := l.sh + off + len * info.size) new'.toList 0 w C hblk (by simp [hns]; omega)
                              (fun v hv => by
                                obtain ⟨k, hk, rfl⟩ := List.getElem_of_mem hv
                                exact oneCell_VR (hnl.2 k (hnl.1 ▸ hk) hk) (hone _ (by simp)))
                            obtain ⟨m1, m2⟩ := hr.moveIn (n' := (len + n) * info.size) (z' := []) (c' := T.ofList (((List.range (len * info.size)).map fun k => cellAt z' cc (off + k)) ++ new)) (off := off) hobj hl (hF _ (Nat.le_refl _) (by simp)) s2 s3 s7
                              ⟨C', ct, (0, 0), s4, fun _ => ⟨rfl, rfl⟩, ⟨by rw [s5]; exact hlm, by simp⟩, by rw [s5]; simp [Nat.add_mul]; omega, fun k hk => by
                                have hk' : k < (((List.range (len * info.size)).map fun k => cellAt z' cc (off + k)) ++ new).length := by simp [q5, ← Nat.add_mul]; exact hk
                                rw [cellAt_ofList _ _ _ hk', s6]
                                by_cases hlt : k < len * info.size
                                · obtain ⟨v, e1, e2⟩ := hcs (off + k) (by omega)
                                  rw [if_neg (by simp; omega)]
                                  refine ⟨v, by rw [show l.sh + off + k = l.sh + (off + k) from by omega]; exact e1, ?_⟩
                                  rw [List.getElem_append_left (by simpa using hlt)]
                                  simpa using e2
                                · simp [Nat.add_mul] at hk
                                  have hkn : k - len * info.size < new.length := by omega
                                  rw [if_pos (by simp [hns]; omega)]
                                  refine ⟨new'.toList[k - len * info.size]'(hnl.1 ▸ hkn), ?_, ?_⟩
                                  · rw [show l.sh + off + k - (l.sh + off + len * info.size + 0) = k - len * info.size from by omega]
                                    simp
                                  · rw [List.getElem_append_right (by simp; omega)]
                                    simp only [List.length_map, List.length_range]
                                    exact hnl.2 _ _ _⟩
                            refine ⟨_, w', .slice (some ⟨l.blk, l.sh + off, none⟩) (len + n) c', ?_, ?_, m1, m2⟩
                            · rw [hrun]
                              simp only [addr_add]
                              rw [s1]; rfl
                            · exact VR.slice (l := ⟨l.blk, l.sh + off, l.lim, info.size⟩) (o := 0) (Inj.put_same _ _ _) (Nat.le_refl _) hroom (by simp; omega)
                          · obtain ⟨f1, f2⟩ := hr.forget hobj
                            obtain ⟨vs, v1, v2⟩ := run_load_cells (P := P) hcr hfit
                            exact out _ _ len c' vs v2 (by simp) (fun w' hw => by simp only [Builtin.firstCells]; exact v1 w' hw) (by omega) hb.1 hb.2 (hF _ (Nat.le_refl _) (by simp)) _ f1 f2 rfl
                      · cases h
                  · cases h
              · cases h
          · cases h
        · cases h
      · cases h
    · cases h
  · cases h

end Go.Abs

/- copy, min, max; maps. -/
namespace Go.Abs
open Go
variable {P : Program}

def aCopy (E : Env P) (t : TypeId) (d s : Value) (A : AHeap) : Option (Value × AHeap) :=
  match E.und t with
  | some (.slice elem) => match E.inf elem with
    | some info => match d, s with
      | .slice db dn _, .slice _ sn _ =>
        if Nat.min sn dn = 0 then some (goInt 0, A) else
        match db, aFirst info.size (Nat.min sn dn) s A with
        | some ⟨i, off, none⟩, some cells => match A.obj i with
          | some (.cells false es m z c) => if off + Nat.min sn dn * info.size ≤ m && cells.length = Nat.min sn dn * info.size && cells.all Value.oneCell' then
              some (goInt (Nat.min sn dn), A.set i (.cells false es m z (c.putList off cells))) else none
          | _ => none
        | _, _ => none
      | _, _ => none
    | none => none
  | _ => none

theorem firstCells_zero {size : Nat} {a : Option Addr} {n c : Nat} {w : World} : (Builtin.firstCells size 0 (.slice a n c)).run P w = .ok #[] w := by
  cases a with
  | none => simp [Builtin.firstCells]
  | some a => simp only [Builtin.firstCells, Nat.zero_mul]; exact run_loadCells0

theorem aCopy_sim {E : Env P} {t ty : TypeId} {d d' s s' v : Value} {A A' : AHeap} {ι : Inj} {w : World} {ts : Array TypeId} (ht : ts[0]? = some t) (h : aCopy E t d s A = some (v, A'))
    (hd : VR ι d d') (hs : VR ι s s') (hr : Real ι A w) : SimV P (Builtin.copy_ ts ty #[d', s']) ι A w v A' := by
  unfold aCopy at h
  split at h
  · rename_i elem hu
    split at h
    · rename_i info hinf
      split at h
      · rename_i db dn dc sb sn sc
        obtain ⟨db', dc', rfl, _⟩ := hd.slice_len
        obtain ⟨sb', sc', rfl, _⟩ := hs.slice_len
        have hu' := E.und_ok _ _ hu
        have hi' := E.inf_ok _ _ hinf
        split at h
        · rename_i hn
          cases h
          refine SimV.pure (v' := goInt 0) hr ?_ (.int _ _)
          have hn' : min sn dn = 0 := hn
          simp [Builtin.copy_, ht, run_underlying hu', run_sizeOf hi', Builtin.lenOf, hn', firstCells_zero]
          cases db' <;> simp [storeCells]
        · rename_i hn
          split at h
          · rename_i i off cells hf
            split at h
            · rename_i es m z c hobj
              split at h
              · rename_i hc
                simp only [Bool.and_eq_true, decide_eq_true_eq] at hc
                obtain ⟨⟨c1, c2⟩, c3⟩ := hc
                cases h
                obtain ⟨l', f1, f2⟩ := aFirst_sim (P := P) hf hs hr
                have hone : ∀ v ∈ cells, v.oneCell' = true := by simpa using c3
                have hnl : VRl ι cells l'.toList := by simpa using f2.to_list
                cases hd with
                | slice0 hl => exact absurd (by simp) hn
                | slice hl _ _ _ =>
                  rename_i l
                  obtain ⟨w', r1, r2, r3⟩ := hr.store (P := P) hobj hl (off := off) (vs := cells) (vs' := l'.toList) (by omega) hnl hone
                  refine ⟨ι, w', goInt (Nat.min sn dn), ?_, .int _ _, r2, r3⟩
                  simp only [Builtin.copy_, ht, List.getElem?_toArray, List.getElem?_cons_zero, List.getElem?_cons_succ, Sem.run_bind, run_underlying hu', Result.andThen_ok, Builtin.lenOf, Sem.run_pure,
                    run_sizeOf hi', f1 w rfl, r1]
              · cases h
            · cases h
          · cases h
      · cases h
    · cases h
  · cases h

/-! ### min and max of numbers -/
def aMinFrom (k : IntKind) (x : Int) : List Value → Option Value
  | [] => some (.int k x)
  | .int _ y :: rest => aMinFrom k (if y < x then y else x) rest
  | _ => none
def aMin : List Value → Option Value
  | .int k x :: rest => aMinFrom k x rest
  | _ => none
theorem min_from {ι : Inj} {w : World} : ∀ {rest rest' : List Value} {k : IntKind} {x : Int} {v : Value}, VRl ι rest rest' → aMinFrom k x rest = some v →
    (rest'.foldlM Builtin.min2 (.int k x)).run P w = .ok v w ∧ ∃ n, v = .int k n
  | [], rest', k, x, v, hr, h => by obtain rfl := hr.inv_nil; simp [aMinFrom] at h; subst h; exact ⟨by simp, _, rfl⟩
  | r :: rest, rest', k, x, v, hr, h => by
    obtain ⟨r', rest'', rfl, h1, h2⟩ := hr.inv_cons
    cases r with
    | int k' y =>
      obtain rfl := h1.int_inv
      simp only [aMinFrom] at h
      obtain ⟨q1, q2⟩ := min_from (w := w) h2 h
      exact ⟨by simpa [Builtin.min2] using q1, q2⟩
    | _ => simp [aMinFrom] at h
theorem aMin_sim {ts : Array TypeId} {ty : TypeId} {l : List Value} {l' : Array Value} {v : Value} {ι : Inj} {w : World} (h : aMin l = some v) (hl : VRl ι l l'.toList) :
    ∃ v', (Builtin.min_ ts ty l').run P w = .ok v' w ∧ VR ι v v' := by
  cases l with
  | nil => simp [aMin] at h
  | cons x rest =>
    obtain ⟨x', rest', e, h1, h2⟩ := hl.inv_cons
    cases x with
    | int k n =>
      obtain rfl := h1.int_inv
      simp only [aMin] at h
      obtain ⟨q1, m, rfl⟩ := min_from (P := P) (w := w) h2 h
      exact ⟨_, by simp only [Builtin.min_, e]; exact q1, .int _ _⟩
    | _ => simp [aMin] at h

def aMaxFrom (k : IntKind) (x : Int) : List Value → Option Value
  | [] => some (.int k x)
  | .int _ y :: rest => aMaxFrom k (if y > x then y else x) rest
  | _ => none
def aMax : List Value → Option Value
  | .int k x :: rest => aMaxFrom k x rest
  | _ => none
theorem max_from {ι : Inj} {w : World} : ∀ {rest rest' : List Value} {k : IntKind} {x : Int} {v : Value}, VRl ι rest rest' → aMaxFrom k x rest = some v →
    (rest'.foldlM Builtin.max2 (.int k x)).run P w = .ok v w ∧ ∃ n, v = .int k n
  | [], rest', k, x, v, hr, h => by obtain rfl := hr.inv_nil; simp [aMaxFrom] at h; subst h; exact ⟨by simp, _, rfl⟩
  | r :: rest, rest', k, x, v, hr, h => by
    obtain ⟨r', rest'', rfl, h1, h2⟩ := hr.inv_cons
    cases r with
    | int k' y =>
      obtain rfl := h1.int_inv
      simp only [aMaxFrom] at h
      obtain ⟨q1, q2⟩ := max_from (w := w) h2 h
      exact ⟨by simpa [Builtin.max2] using q1, q2⟩
    | _ => simp [aMaxFrom] at h
theorem aMax_sim {ts : Array TypeId} {ty : TypeId} {l : List Value} {l' : Array Value} {v : Value} {ι : Inj} {w : World} (h : aMax l = some v) (hl : VRl ι l l'.toList) :
    ∃ v', (Builtin.max_ ts ty l').run P w = .ok v' w ∧ VR ι v v' := by
  cases l with
  | nil => simp [aMax] at h
  | cons x rest =>
    obtain ⟨x', rest', e, h1, h2⟩ := hl.inv_cons
    cases x with
    | int k n =>
      obtain rfl := h1.int_inv
      simp only [aMax] at h
      obtain ⟨q1, m, rfl⟩ := max_from (P := P) (w := w) h2 h
      exact ⟨_, by simp only [Builtin.max_, e]; exact q1, .int _ _⟩
    | _ => simp [aMax] at h

/-! ### Maps whose keys are numbers or strings -/
theorem bytes_eq {a b : ByteArray} (h : (a == b) = true) : a = b := by
  obtain ⟨x⟩ := a
  obtain ⟨y⟩ := b
  have e : x = y := by simpa using (show (x == y) = true from h)
  rw [e]

/-- Is a key another one? -/
def sameKey : Value → Value → Option Bool
  | .int k a, .int k' b => if k = k' then some (a == b) else none
  | .string a, .string b => some (a == b)
  | _, _ => none

def aFind (k : Value) : List (Value × Value) → Nat → Option (Option (Nat × Value))
  | [], _ => some none
  | e :: es, i => match sameKey k e.1 with
    | some true => some (some (i, e.2))
    | some false => aFind k es (i + 1)
    | none => none

/-- The keys that are taken: numbers in a map of numbers, strings in one of strings. -/
def keyFits (d : TypeDesc) (k : Value) : Bool :=
  match d, k with
  | .int _, .int _ _ => true
  | .string, .string _ => true
  | _, _ => false

theorem sameNow_of {d : TypeDesc} {k x : Value} {b : Bool} (hd : keyFits d k = true) (h : sameKey k x = some b) : Instr.sameNow d k x = some b := by
  unfold keyFits at hd
  split at hd
  · cases x <;> simp [sameKey] at h
    simp [Instr.sameNow, h]
  · cases x <;> simp [sameKey] at h
    simp [Instr.sameNow, h]
  · cases hd

theorem sameKey_VR {ι : Inj} {k x x' : Value} {b : Bool} (h : sameKey k x = some b) (hx : VR ι x x') : x' = x := by
  cases x with
  | int => exact hx.int_inv
  | string => exact hx.string_inv
  | _ => cases k <;> simp [sameKey] at h

theorem findNow_sim {ι : Inj} {d : TypeDesc} {k : Value} (hd : keyFits d k = true) : ∀ {es : List (Value × Value)} {es' : List MapEntry} {i : Nat} {r : Option (Nat × Value)},
    es.length = es'.length → (∀ j (h : j < es.length) (h' : j < es'.length), VR ι es[j].1 es'[j].key ∧ VR ι es[j].2 es'[j].val) → aFind k es i = some r →
    ∃ r', Instr.findNow d k es' i = some r' ∧ (r = none → r' = none) ∧ (∀ j v, r = some (j, v) → ∃ v', r' = some (j, v') ∧ VR ι v v' ∧ ∃ m, j = i + m ∧ ∃ (hm : m < es'.length) (hm' : m < es.length), es'[m].key = k ∧ es[m].1 = k ∧ v' = es'[m].val)
  | [], [], i, r, _, _, h => by simp [aFind] at h; subst h; exact ⟨none, by simp [Instr.findNow], fun _ => rfl, fun j v e => by cases e⟩
  | [], _ :: _, _, _, hl, _, _ => by simp at hl
  | _ :: _, [], _, _, hl, _, _ => by simp at hl
  | e :: es, e' :: es', i, r, hl, hv, h => by
    simp only [aFind] at h
    obtain ⟨h1, h2⟩ := hv 0 (by simp) (by simp)
    simp at h1 h2
    cases hs : sameKey k e.1 with
    | none => rw [hs] at h; cases h
    | some b =>
      have hk := sameKey_VR hs h1
      have hn := sameNow_of hd hs
      rw [← hk] at hn
      rw [hs] at h
      cases b with
      | true =>
        simp only at h
        cases h
        refine ⟨some (i, e'.val), by simp [Instr.findNow, hn], fun e => (by cases e), fun j v e1 => ?_⟩
        cases e1
        refine ⟨_, rfl, h2, 0, rfl, by simp, by simp, ?_, ?_, rfl⟩
        · simp [hk]
          unfold keyFits at hd
          split at hd
          · cases he : e.1 <;> rw [he] at hs <;> simp [sameKey] at hs
            obtain ⟨rfl, hs⟩ := hs; simp [hs]
          · cases he : e.1 <;> rw [he] at hs <;> simp [sameKey] at hs
            rw [bytes_eq hs]
          · cases hd
        · simp
          unfold keyFits at hd
          split at hd
          · cases he : e.1 <;> rw [he] at hs <;> simp [sameKey] at hs
            obtain ⟨rfl, hs⟩ := hs; simp [hs]
          · cases he : e.1 <;> rw [he] at hs <;> simp [sameKey] at hs
            rw [bytes_eq hs]
          · cases hd
      | false =>
        simp only at h
        obtain ⟨r', r1, r2, r3⟩ := findNow_sim hd (es' := es') (i := i + 1) (by simpa using hl) (fun j a b => hv (j + 1) (Nat.succ_lt_succ a) (Nat.succ_lt_succ b)) h
        refine ⟨r', by simp [Instr.findNow, hn, r1], r2, fun j v e1 => ?_⟩
        obtain ⟨v', q1, q2, m, q3, q4, q5, q6, q7, q8⟩ := r3 j v e1
        exact ⟨v', q1, q2, m + 1, by omega, by simpa using q4, by simpa using q5, by simpa using q6, by simpa using q7, by simpa using q8⟩

theorem run_checkKey {b : Bool} {t : TypeId} {d : TypeDesc} {k : Value} {w : World} (hu : P.underlying t = some d) (hd : keyFits d k = true) : (Instr.checkKey b 10000 t k).run P w = .ok () w := by
  unfold keyFits at hd
  split at hd
  · unfold Instr.checkKey; simp [run_underlying hu]
  · unfold Instr.checkKey; simp [run_underlying hu]
  · cases hd

theorem keyFits_VR {ι : Inj} {d : TypeDesc} {k k' : Value} (hd : keyFits d k = true) (hk : VR ι k k') : k' = k := by
  unfold keyFits at hd
  split at hd
  · exact hk.int_inv
  · exact hk.string_inv
  · cases hd

end Go.Abs

/- Maps: looked up, stored into, deleted from. -/
namespace Go.Abs
open Go
variable {P : Program}

def aLookup (E : Env P) (t : TypeId) (m k : Value) (ok : Bool) (A : AHeap) : Option Value :=
  match E.und t with
  | some (.map kt et) => match E.und kt, E.inf et with
    | some kd, some info => match info.zero with
      | some z => if keyFits kd k && flat z then
          (match (match m with
            | .map none => some none
            | .map (some i) => match A.obj i with
              | some (.map es) => aFind k es 0
              | _ => none
            | _ => none) with
          | some (some (_, v)) => some (if ok then .tuple #[v, .bool true] else v)
          | some none => some (if ok then .tuple #[z, .bool false] else z)
          | none => none) else none
      | none => none
    | _, _ => none
  | _ => none

theorem VR.pair {ι : Inj} {v v' : Value} (b : Bool) (h : VR ι v v') : VR ι (.tuple #[v, .bool b]) (.tuple #[v', .bool b]) :=
  .tuple rfl fun i h1 h2 => by
    simp at h1
    match i, h1 with
    | 0, _ => exact h
    | 1, _ => exact .bool b

theorem aLookup_sim {E : Env P} {t : TypeId} {m m' k k' v : Value} {ok : Bool} {A : AHeap} {ι : Inj} {w : World} (h : aLookup E t m k ok A = some v) (hm : VR ι m m') (hk : VR ι k k') (hr : Real ι A w) :
    ∃ v', (Instr.lookup t m' k' ok).run P w = .ok v' w ∧ VR ι v v' := by
  unfold aLookup at h
  split at h
  · rename_i kt et hu
    split at h
    · rename_i kd info hkd hinf
      split at h
      · rename_i z hz
        split at h
        · rename_i hc
          simp only [Bool.and_eq_true] at hc
          obtain ⟨hkf, hfz⟩ := hc
          obtain rfl := keyFits_VR hkf hk
          have hu' := E.und_ok _ _ hu
          have hkd' := E.und_ok _ _ hkd
          have hzv := run_zeroValue (P := P) (w := w) (E.inf_ok _ _ hinf) hz
          have hzr : VR ι z z := flat_refl hfz
          have fin : ∀ (es : Array MapEntry) (r : Option (Nat × Value)) (r' : Option (Nat × Value)), (m' = .map none ∧ es = #[] ∨ ∃ r clk, m' = .map (some r) ∧ w.heap[r]? = some (.map es clk)) →
              Instr.findNow kd k' es.toList 0 = some r' → (r = none → r' = none) →
              (∀ j v, r = some (j, v) → ∃ v', r' = some (j, v') ∧ VR ι v v') → (match r with
                | some (_, v) => some (if ok then .tuple #[v, .bool true] else v)
                | none => some (if ok then .tuple #[z, .bool false] else z)) = some v →
              ∃ v', (Instr.lookup t m' k' ok).run P w = .ok v' w ∧ VR ι v v' := by
            intro es r r' h1 h2 h3 h4 h5
            have hfk : (Instr.findKey kt k' es.toList).run P w = .ok r' w := by
              simp [Instr.findKey, run_underlying hkd', h2]
            have hck : ∀ b, (Instr.checkKey b 10000 kt k').run P w = .ok () w := fun b => run_checkKey hkd' hkf
            cases r with
            | none =>
              obtain rfl := h3 rfl
              simp only [Option.some.injEq] at h5
              refine ⟨v, ?_, ?_⟩
              · rcases h1 with ⟨rfl, rfl⟩ | ⟨r, clk, rfl, hh⟩
                · have hfk' : (Instr.findKey kt k' []).run P w = .ok none w := hfk
                  simp [Instr.lookup, run_underlying hu', hck, hfk', hzv]
                  cases ok <;> simpa using h5
                · simp [Instr.lookup, run_underlying hu', hck, run_getObj_map hh, hfk, hzv]
                  cases ok <;> simpa using h5
              · subst h5
                cases ok with
                | true => exact hzr.pair false
                | false => exact hzr
            | some jv =>
              obtain ⟨j, x⟩ := jv
              obtain ⟨x', rfl, hx⟩ := h4 j x rfl
              simp only [Option.some.injEq] at h5
              refine ⟨if ok then .tuple #[x', .bool true] else x', ?_, ?_⟩
              · rcases h1 with ⟨rfl, rfl⟩ | ⟨r, clk, rfl, hh⟩
                · simp [Instr.findNow] at h2
                · simp [Instr.lookup, run_underlying hu', hck, run_getObj_map hh, hfk]
              · subst h5
                cases ok with
                | true => exact hx.pair true
                | false => exact hx
          split at h
          · rename_i j x hfind
            split at hfind
            · cases hfind
            · rename_i i
              obtain ⟨l, hl, rfl⟩ := hm.map_inv
              split at hfind
              · rename_i es hobj
                obtain ⟨l', M, clk, hl', q1, q2, q3⟩ := hr.map hobj
                rw [hl] at hl'; cases hl'
                obtain ⟨r', f1, f2, f3⟩ := findNow_sim (ι := ι) (es' := M.toList) hkf (by simp [q2]) (fun j a b => by
                  obtain ⟨e, e1, e2, e3⟩ := q3 j a
                  have := (Array.getElem?_eq_some_iff.1 e1).2
                  simp only [Array.getElem_toList, this]; exact ⟨e2, e3⟩) hfind
                exact fin M (some (j, x)) r' (.inr ⟨_, clk, rfl, q1⟩) f1 f2 (fun a b e => let ⟨v', g1, g2, _⟩ := f3 a b e; ⟨v', g1, g2⟩) h
              · cases hfind
            · cases hfind
          · rename_i hfind
            split at hfind
            · obtain rfl := hm.nilMap_inv
              exact fin #[] none none (.inl ⟨rfl, rfl⟩) (by simp [Instr.findNow]) (fun _ => rfl) (fun _ _ e => by cases e) h
            · rename_i i
              obtain ⟨l, hl, rfl⟩ := hm.map_inv
              split at hfind
              · rename_i es hobj
                obtain ⟨l', M, clk, hl', q1, q2, q3⟩ := hr.map hobj
                rw [hl] at hl'; cases hl'
                obtain ⟨r', f1, f2, f3⟩ := findNow_sim (ι := ι) (es' := M.toList) hkf (by simp [q2]) (fun j a b => by
                  obtain ⟨e, e1, e2, e3⟩ := q3 j a
                  have := (Array.getElem?_eq_some_iff.1 e1).2
                  simp only [Array.getElem_toList, this]; exact ⟨e2, e3⟩) hfind
                exact fin M none r' (.inr ⟨_, clk, rfl, q1⟩) f1 f2 (fun a b e => let ⟨v', g1, g2, _⟩ := f3 a b e; ⟨v', g1, g2⟩) h
              · cases hfind
            · cases hfind
          · cases h
        · cases h
      · cases h
    · cases h
  · cases h

/-- A key's value stored. -/
def aMapPut (k v : Value) (es : List (Value × Value)) : Option (List (Value × Value)) :=
  match aFind k es 0 with
  | some (some (i, _)) => some (es.set i (k, v))
  | some none => some (es ++ [(k, v)])
  | none => none

def aMapUpdate (E : Env P) (t : TypeId) (m k v : Value) (A : AHeap) : Option AHeap :=
  match E.und t, m with
  | some (.map kt _), .map (some i) => match E.und kt with
    | some kd => if keyFits kd k then (match A.obj i with
      | some (.map es) => match aMapPut k v es with
        | some es' => some (A.set i (.map es'))
        | none => none
      | _ => none) else none
    | none => none
  | _, _ => none

theorem sameBits_key {k : Value} {kd : TypeDesc} (h : keyFits kd k = true) : Instr.sameBits 10000 k k = true := by
  unfold keyFits at h
  split at h
  · rename_i a b
    show ((a == a) && (b == b)) = true
    simp
  · rename_i s
    obtain ⟨x⟩ := s
    show (x == x) = true
    simp
  · cases h

theorem run_setObj_map {w : World} {r : Nat} {E : Array MapEntry} {clk : Nat} (h : w.heap[r]? = some (.map E clk)) (o : Obj) :
    (setObj r o).run P w = .ok () { w with heap := w.heap.setIfInBounds r o } := by simp [setObj, Sem.run, h]

/-- A map turns. -/
theorem Real.turnMap {ι : Inj} {A : AHeap} {w : World} (h : Real ι A w) {i : Nat} {es es' : List (Value × Value)} {l : Loc} (hi : A.obj i = some (.map es)) (hl : ι i = some l) {M : Array MapEntry} {clk : Nat}
    (hs : M.size = es'.length) (hv : ∀ k (_ : k < es'.length), ∃ e, M[k]? = some e ∧ VR ι es'[k].1 e.key ∧ VR ι es'[k].2 e.val) :
    Real ι (A.set i (.map es')) { w with heap := w.heap.setIfInBounds l.blk (.map M clk) } ∧ Ext ι A w ι (A.set i (.map es')) { w with heap := w.heap.setIfInBounds l.blk (.map M clk) } := by
  have hb := h.dom _ _ hl
  refine h.turn hi rfl hl (by simp) (fun b hb' => ?_) ⟨rfl, rfl, rfl⟩ (by simp) ⟨M, clk, ?_, hs, hv⟩
  · simp only [Array.getElem?_setIfInBounds]; rw [if_neg (fun e => hb' e.symm)]
  · simp [hb]

theorem aMapUpdate_sim {E : Env P} {t : TypeId} {m m' k k' v v' : Value} {A A' : AHeap} {ι : Inj} {w : World} (h : aMapUpdate E t m k v A = some A') (hm : VR ι m m') (hk : VR ι k k') (hv : VR ι v v') (hr : Real ι A w) :
    ∃ w', (Instr.mapUpdate t m' k' v').run P w = .ok () w' ∧ Real ι A' w' ∧ Ext ι A w ι A' w' := by
  unfold aMapUpdate at h
  split at h
  · rename_i kt et i hu
    split at h
    · rename_i kd hkd
      split at h
      · rename_i hkf
        split at h
        · rename_i es hobj
          split at h
          · rename_i es' hput
            cases h
            obtain rfl := keyFits_VR hkf hk
            obtain ⟨l, hl, rfl⟩ := hm.map_inv
            obtain ⟨l', M, clk, hl', q1, q2, q3⟩ := hr.map hobj
            rw [hl] at hl'; cases hl'
            have hu' := E.und_ok _ _ hu
            have hkd' := E.und_ok _ _ hkd
            unfold aMapPut at hput
            split at hput
            · rename_i j x hfind
              cases hput
              obtain ⟨r', f1, f2, f3⟩ := findNow_sim (ι := ι) (es' := M.toList) hkf (by simp [q2]) (fun j a b => by
                obtain ⟨e, e1, e2, e3⟩ := q3 j a
                have := (Array.getElem?_eq_some_iff.1 e1).2
                simp only [Array.getElem_toList, this]; exact ⟨e2, e3⟩) hfind
              obtain ⟨x', rfl, hx, mm, e0, e1, e2, e3, e4, e5⟩ := f3 j x rfl
              obtain rfl : j = mm := by omega
              have hM : j < M.size := by simpa using e1
              have hkey : M[j].key = k' := by simpa using e3
              have hfk : (Instr.findKey kt k' M.toList).run P w = .ok (some (j, x')) w := by simp [Instr.findKey, run_underlying hkd', f1]
              obtain ⟨t1, t2⟩ := hr.turnMap (es' := es.set j (k', v)) (M := M.modify j fun e => { e with key := k', val := v' }) (clk := clk) hobj hl (by simp [q2]) (fun p hp => by
                simp at hp
                obtain ⟨e, g1, g2, g3⟩ := q3 p hp
                rw [Array.getElem?_modify, g1]
                by_cases hpj : j = p
                · subst hpj
                  refine ⟨{ e with key := k', val := v' }, by simp, ?_, ?_⟩
                  · simp; exact hk
                  · simp; exact hv
                · refine ⟨e, by simp [hpj], ?_, ?_⟩
                  · rw [List.getElem_set_ne hpj]; exact g2
                  · rw [List.getElem_set_ne hpj]; exact g3)
              refine ⟨_, ?_, t1, t2⟩
              simp [Instr.mapUpdate, run_underlying hu', run_getObj_map q1, run_checkKey hkd' hkf, hfk, Instr.keyThatStays, hM, hkey, sameBits_key hkf, run_setObj_map q1]
            · rename_i hfind
              cases hput
              obtain ⟨r', f1, f2, f3⟩ := findNow_sim (ι := ι) (es' := M.toList) hkf (by simp [q2]) (fun j a b => by
                obtain ⟨e, e1, e2, e3⟩ := q3 j a
                have := (Array.getElem?_eq_some_iff.1 e1).2
                simp only [Array.getElem_toList, this]; exact ⟨e2, e3⟩) hfind
              obtain rfl := f2 rfl
              have hfk : (Instr.findKey kt k' M.toList).run P w = .ok none w := by simp [Instr.findKey, run_underlying hkd', f1]
              obtain ⟨t1, t2⟩ := hr.turnMap (es' := es ++ [(k', v)]) (M := M.push { key := k', val := v', born := clk }) (clk := clk + 1) hobj hl (by simp [q2]) (fun p hp => by
                simp at hp
                by_cases hpj : p < es.length
                · obtain ⟨e, g1, g2, g3⟩ := q3 p hpj
                  refine ⟨e, ?_, ?_, ?_⟩
                  · rw [Array.getElem?_push, if_neg (by omega)]; exact g1
                  · rw [List.getElem_append_left hpj]; exact g2
                  · rw [List.getElem_append_left hpj]; exact g3
                · obtain rfl : p = es.length := by omega
                  refine ⟨{ key := k', val := v', born := clk }, by rw [Array.getElem?_push, if_pos q2.symm], ?_, ?_⟩
                  · simp; exact hk
                  · simp; exact hv)
              refine ⟨_, ?_, t1, t2⟩
              simp [Instr.mapUpdate, run_underlying hu', run_getObj_map q1, run_checkKey hkd' hkf, hfk, run_setObj_map q1]
            · cases hput
          · cases h
        · cases h
      · cases h
    · cases h
  · cases h

theorem aMakeMap_sim {t : TypeId} {A : AHeap} {ι : Inj} {w : World} (hr : Real ι A w) (hF : ι A.next = none) : SimV P (Instr.makeMap t none) ι A w (.map (some A.next)) (A.push (.map [])) := by
  obtain ⟨r1, r2⟩ := hr.push hF (.map #[] 0) (.map []) ⟨w.heap.size, 0, 0, 0⟩ rfl ⟨#[], 0, by simp, by simp, fun k hk => by simp at hk⟩
  exact ⟨_, _, .map (some w.heap.size), by simp [Instr.makeMap], .map (l := ⟨w.heap.size, 0, 0, 0⟩) (Inj.put_same _ _ _), r1, r2⟩

end Go.Abs

/- Equality; operators; conversions. -/
namespace Go.Abs
open Go
variable {P : Program}

/-! ### Equality -/
def aEqFields (E : Env P) (eq : TypeId → Value → Value → Option Bool) (xs ys : Array Value) : List Field → Option Bool
  | [] => some true
  | f :: fs =>
    if f.name = "_" then aEqFields E eq xs ys fs else
    match aPart E f.type xs f.offset, aPart E f.type ys f.offset with
    | some a, some b => match eq f.type a b with
      | some true => aEqFields E eq xs ys fs
      | some false => some false
      | none => none
    | _, _ => none
def aEqElems (E : Env P) (eq : TypeId → Value → Value → Option Bool) (t : TypeId) (size : Nat) (xs ys : Array Value) : Nat → Nat → Option Bool
  | 0, _ => some true
  | k + 1, i =>
    match aPart E t xs (i * size), aPart E t ys (i * size) with
    | some a, some b => match eq t a b with
      | some true => aEqElems E eq t size xs ys k (i + 1)
      | some false => some false
      | none => none
    | _, _ => none

/-- '==' of two values. -/
def aEqual (E : Env P) : Nat → TypeId → Value → Value → Option Bool
  | 0, _, _, _ => none
  | n + 1, t, x, y =>
    match E.und t, x, y with
    | some .bool, .bool a, .bool b => some (a == b)
    | some (.int _), .int k a, .int k' b => if k = k' then some (a == b) else none
    | some .string, .string a, .string b => some (a == b)
    | some (.pointer _), .pointer none, .pointer b => some b.isNone
    | some (.pointer _), .pointer (some _), .pointer none => some false
    | some (.slice _), .slice none _ _, .slice b _ _ => some b.isNone
    | some (.slice _), .slice (some _) _ _, .slice none _ _ => some false
    | some (.map _ _), .map none, .map b => some b.isNone
    | some (.map _ _), .map (some _), .map none => some false
    | some (.func _ _ _), .nilFunc, .nilFunc => some true
    | some (.func _ _ _), .nilFunc, .func _ _ _ => some false
    | some (.func _ _ _), .func _ _ _, .nilFunc => some false
    | some (.struct fields), .agg xs, .agg ys => if E.hld t then aEqFields E (aEqual E n) xs ys fields.toList else none
    | some (.array len elem), .agg xs, .agg ys => match E.inf elem with
      | some info => aEqElems E (aEqual E n) elem info.size xs ys len 0
      | none => none
    | _, _, _ => none

theorem VR.bool_inv {ι : Inj} {b : Bool} {v' : Value} (h : VR ι (.bool b) v') : v' = .bool b := by cases h; rfl
theorem VR.ptr_none {ι : Inj} {v' : Value} (h : VR ι (.pointer none) v') : v' = .pointer none := by cases h; rfl
theorem VR.ptr_shape {ι : Inj} {a : Option Addr} {v' : Value} (h : VR ι (.pointer a) v') : ∃ a', v' = .pointer a' ∧ a'.isNone = a.isNone := by
  cases h with
  | nilPtr => exact ⟨_, rfl, rfl⟩
  | ptr h => exact ⟨_, rfl, rfl⟩
theorem VR.slice_shape {ι : Inj} {a : Option Addr} {n c : Nat} {v' : Value} (h : VR ι (.slice a n c) v') : ∃ a' n' c', v' = .slice a' n' c' ∧ a'.isNone = a.isNone := by
  cases h with
  | nilSlice => exact ⟨_, _, _, rfl, rfl⟩
  | slice h _ _ _ => exact ⟨_, _, _, rfl, rfl⟩
  | slice0 h => exact ⟨_, _, _, rfl, rfl⟩
  | sliceZ h => exact ⟨_, _, _, rfl, rfl⟩
theorem VR.map_shape {ι : Inj} {a : Option Nat} {v' : Value} (h : VR ι (.map a) v') : ∃ a', v' = .map a' ∧ a'.isNone = a.isNone := by
  cases h with
  | nilMap => exact ⟨_, rfl, rfl⟩
  | map h => exact ⟨_, rfl, rfl⟩
theorem VR.func_shape {ι : Inj} {f : Fn} {a b : Array Value} {v' : Value} (h : VR ι (.func f a b) v') : ∃ f' a' b', v' = .func f' a' b' := by
  cases h with
  | func => exact ⟨_, _, _, rfl⟩
  | yield h => exact ⟨_, _, _, rfl⟩
theorem VR.nilFunc_inv {ι : Inj} {v' : Value} (h : VR ι .nilFunc v') : v' = .nilFunc := by cases h; rfl
theorem VR.agg_inv {ι : Inj} {xs : Array Value} {v' : Value} (h : VR ι (.agg xs) v') : ∃ xs', v' = .agg xs' ∧ VRs ι xs xs' := by
  cases h with
  | agg hs h => exact ⟨_, rfl, hs, h⟩

theorem some_of_isNone {α : Type} {a : Option α} (h : a.isNone = false) : ∃ b, a = some b := by
  cases a with
  | none => simp at h
  | some b => exact ⟨b, rfl⟩

theorem isNone_of {α : Type} {a : Option α} (h : a.isNone = true) : a = none := by
  cases a with
  | none => rfl
  | some b => simp at h

theorem eqFields_sim {E : Env P} {eq : TypeId → Value → Value → Option Bool} {d : Nat} {ι : Inj} {w : World} (heq : ∀ t x y b x' y', eq t x y = some b → VR ι x x' → VR ι y y' → (Op.equalIn d t x' y').run P w = .ok b w)
    {xs ys xs' ys' : Array Value} (hx : VRs ι xs xs') (hy : VRs ι ys ys') : ∀ {fs : List Field} {b : Bool}, aEqFields E eq xs ys fs = some b → (Op.eqFields d xs' ys' fs).run P w = .ok b w
  | [], b, h => by simp [aEqFields] at h; subst h; simp [Op.eqFields]
  | f :: fs, b, h => by
    simp only [aEqFields] at h
    split at h
    · rename_i hn
      have ih := eqFields_sim heq hx hy h
      simp [Op.eqFields, hn, ih]
    · rename_i hn
      split at h
      · rename_i p q hp hq
        obtain ⟨p', p1, p2⟩ := aPart_sim (w := w) hp hx
        obtain ⟨q', q1, q2⟩ := aPart_sim (w := w) hq hy
        split at h
        · rename_i he
          have ih := eqFields_sim heq hx hy h
          simp [Op.eqFields, hn, p1, q1, heq _ _ _ _ _ _ he p2 q2, ih]
        · rename_i he
          cases h
          simp [Op.eqFields, hn, p1, q1, heq _ _ _ _ _ _ he p2 q2]
        · cases h
      · cases h

def eqElemsS (d : Nat) (t : TypeId) (n : Nat) (xs ys : Array Value) : Nat → Nat → Sem Bool
  | 0, _ => pure true
  | k + 1, i => do
    let a ← part t xs (i * n)
    let b ← part t ys (i * n)
    let r ← Op.equalIn d t a b
    if r then eqElemsS d t n xs ys k (i + 1) else pure false

theorem run_equalIn_array {w : World} (d : Nat) (t elem : TypeId) (len : Nat) (info : TypeInfo) (xs ys : Array Value) (ht : P.underlying t = some (.array len elem)) (hi : P.info? elem = some info) :
    (Op.equalIn (d + 1) t (.agg xs) (.agg ys)).run P w = (eqElemsS d elem info.size xs ys len 0).run P w := by
  simp only [Op.equalIn, Sem.run_bind, run_underlying ht, Result.andThen_ok, run_sizeOf hi]
  simp only [Std.Legacy.Range.forIn_eq_forIn_range', Std.Legacy.Range.size]
  simp only [Nat.sub_zero, Nat.add_sub_cancel, Nat.div_one]
  generalize (0 : Nat) = i
  clear ht
  induction len generalizing i w with
  | zero => simp [eqElemsS]
  | succ k ih =>
    simp only [List.range'_succ, List.forIn_cons, eqElemsS, Sem.run_bind]
    generalize (part elem xs (i * info.size)).run P w = r1
    cases r1 with
    | ok a w1 =>
      simp only [Result.andThen_ok]
      generalize (part elem ys (i * info.size)).run P w1 = r2
      cases r2 with
      | ok b w2 =>
        simp only [Result.andThen_ok]
        generalize (Op.equalIn d elem a b).run P w2 = r3
        cases r3 with
        | ok r w3 =>
          cases r
          · simp
          · simp only [Result.andThen_ok, Bool.not_true, Bool.false_eq_true, if_false, Sem.run_pure, if_true]
            exact ih (i + 1)
        | halt x w3 => simp
      | halt x w2 => simp
    | halt x w1 => simp

theorem eqElems_sim {E : Env P} {eq : TypeId → Value → Value → Option Bool} {d : Nat} {ι : Inj} {w : World} (heq : ∀ t x y b x' y', eq t x y = some b → VR ι x x' → VR ι y y' → (Op.equalIn d t x' y').run P w = .ok b w)
    {t : TypeId} {size : Nat} {xs ys xs' ys' : Array Value} (hx : VRs ι xs xs') (hy : VRs ι ys ys') : ∀ {k i : Nat} {b : Bool}, aEqElems E eq t size xs ys k i = some b → (eqElemsS d t size xs' ys' k i).run P w = .ok b w
  | 0, i, b, h => by simp [aEqElems] at h; subst h; simp [eqElemsS]
  | k + 1, i, b, h => by
    simp only [aEqElems] at h
    split at h
    · rename_i p q hp hq
      obtain ⟨p', p1, p2⟩ := aPart_sim (w := w) hp hx
      obtain ⟨q', q1, q2⟩ := aPart_sim (w := w) hq hy
      split at h
      · rename_i he
        have ih := eqElems_sim heq hx hy h
        simp [eqElemsS, p1, q1, heq _ _ _ _ _ _ he p2 q2, ih]
      · rename_i he
        cases h
        simp [eqElemsS, p1, q1, heq _ _ _ _ _ _ he p2 q2]
      · cases h
    · cases h

theorem aEqual_sim {E : Env P} {ι : Inj} {w : World} : ∀ (n m : Nat) (t : TypeId) (x y : Value) (b : Bool) (x' y' : Value), aEqual E n t x y = some b → VR ι x x' → VR ι y y' → (Op.equalIn (n + m) t x' y').run P w = .ok b w
  | 0, _, _, _, _, _, _, _, h, _, _ => by simp [aEqual] at h
  | n + 1, m, t, x, y, b, x', y', h, hx, hy => by
    have ih := aEqual_sim (E := E) (ι := ι) (w := w) n m
    rw [show n + 1 + m = (n + m) + 1 from by omega]
    simp only [aEqual] at h
    split at h
    · rename_i a c hu
      cases h; obtain rfl := hx.bool_inv; obtain rfl := hy.bool_inv
      simp [Op.equalIn, run_underlying (E.und_ok _ _ hu)]
    · rename_i k a k' c hu
      split at h
      · rename_i hk
        cases h; obtain rfl := hx.int_inv; obtain rfl := hy.int_inv
        simp [Op.equalIn, run_underlying (E.und_ok _ _ hu), hk]
      · cases h
    · rename_i a c hu
      cases h; obtain rfl := hx.string_inv; obtain rfl := hy.string_inv
      simp [Op.equalIn, run_underlying (E.und_ok _ _ hu)]
    · rename_i e c hu
      cases h; obtain rfl := hx.ptr_none; obtain ⟨c', rfl, hc⟩ := hy.ptr_shape
      rw [← hc]
      cases c' <;> simp [Op.equalIn, run_underlying (E.und_ok _ _ hu)]
    · rename_i e c hu
      cases h; obtain rfl := hy.ptr_none; obtain ⟨c', rfl, hc⟩ := hx.ptr_shape
      obtain ⟨d, rfl⟩ := some_of_isNone hc
      simp [Op.equalIn, run_underlying (E.und_ok _ _ hu)]
    · rename_i e a1 a2 c1 c2 c3 hu
      cases h; obtain rfl : x' = .slice none a1 a2 := by
        obtain ⟨p, q, r, rfl, hp⟩ := hx.slice_shape
        cases hx; rfl
      obtain ⟨p, q, r, rfl, hp⟩ := hy.slice_shape
      rw [← hp]
      simp [Op.equalIn, run_underlying (E.und_ok _ _ hu)]
    · rename_i e c1 c2 c3 a1 a2 hu
      cases h
      obtain ⟨p, q, r, rfl, hp⟩ := hx.slice_shape
      obtain ⟨d, rfl⟩ := some_of_isNone hp
      obtain ⟨p', q', r', rfl, hp'⟩ := hy.slice_shape
      obtain rfl := isNone_of hp'
      simp [Op.equalIn, run_underlying (E.und_ok _ _ hu)]
    · rename_i e1 e2 c hu
      cases h
      obtain rfl := hx.nilMap_inv
      obtain ⟨p, rfl, hp⟩ := hy.map_shape
      rw [← hp]
      simp [Op.equalIn, run_underlying (E.und_ok _ _ hu)]
    · rename_i e1 e2 c hu
      cases h
      obtain rfl := hy.nilMap_inv
      obtain ⟨p, rfl, hp⟩ := hx.map_shape
      obtain ⟨d, rfl⟩ := some_of_isNone hp
      simp [Op.equalIn, run_underlying (E.und_ok _ _ hu)]
    · rename_i e1 e2 e3 hu
      cases h; obtain rfl := hx.nilFunc_inv; obtain rfl := hy.nilFunc_inv
      simp [Op.equalIn, run_underlying (E.und_ok _ _ hu)]
    · rename_i e1 e2 e3 f a c hu
      cases h; obtain rfl := hx.nilFunc_inv
      obtain ⟨f', a', c', rfl⟩ := hy.func_shape
      simp [Op.equalIn, run_underlying (E.und_ok _ _ hu)]
    · rename_i e1 e2 e3 f a c hu
      cases h; obtain rfl := hy.nilFunc_inv
      obtain ⟨f', a', c', rfl⟩ := hx.func_shape
      simp [Op.equalIn, run_underlying (E.und_ok _ _ hu)]
    · rename_i fields xs ys hu
      split at h
      · rename_i hh
        obtain ⟨xs', rfl, hxs⟩ := hx.agg_inv
        obtain ⟨ys', rfl, hys⟩ := hy.agg_inv
        have hf : P.fieldsOf t = fields := by simp [Program.fieldsOf, E.und_ok _ _ hu]
        rw [run_equalIn_struct w (n + m) t xs' ys' (by rw [hf]; exact E.und_ok _ _ hu) (E.hld_ok _ hh), hf]
        exact eqFields_sim (fun t x y b x' y' a c d => ih t x y b x' y' a c d) hxs hys h
      · cases h
    · rename_i len elem xs ys hu
      split at h
      · rename_i info hi
        obtain ⟨xs', rfl, hxs⟩ := hx.agg_inv
        obtain ⟨ys', rfl, hys⟩ := hy.agg_inv
        rw [run_equalIn_array (n + m) t elem len info xs' ys' (E.und_ok _ _ hu) (E.inf_ok _ _ hi)]
        exact eqElems_sim (fun t x y b x' y' a c d => ih t x y b x' y' a c d) hxs hys h
      · cases h
    · cases h

end Go.Abs

/- Operators, conversions. -/
namespace Go.Abs
open Go
variable {P : Program}

def aInt (op : BinOp) (k : IntKind) (a b : Int) : Option Value :=
  match op with
  | .add => some (.int k (k.wrap (a + b)))
  | .sub => some (.int k (k.wrap (a - b)))
  | .mul => some (.int k (k.wrap (a * b)))
  | .quo => if b = 0 then none else some (.int k (k.wrap (a.tdiv b)))
  | .rem => if b = 0 then none else some (.int k (a.tmod b))
  | .and => some (.int k (k.wrap (BitVec.ofInt k.bits a &&& BitVec.ofInt k.bits b).toNat))
  | .or => some (.int k (k.wrap (BitVec.ofInt k.bits a ||| BitVec.ofInt k.bits b).toNat))
  | .xor => some (.int k (k.wrap (BitVec.ofInt k.bits a ^^^ BitVec.ofInt k.bits b).toNat))
  | .andNot => some (.int k (k.wrap (BitVec.ofInt k.bits a &&& ~~~BitVec.ofInt k.bits b).toNat))
  | .eql => some (.bool (a == b))
  | .neq => some (.bool (a != b))
  | .lss => some (.bool (a < b))
  | .leq => some (.bool (a ≤ b))
  | .gtr => some (.bool (a > b))
  | .geq => some (.bool (a ≥ b))
  | .shl | .shr => none

def aShift (op : BinOp) (k : IntKind) (a b : Int) : Option Value :=
  if b < 0 then none else
  match op with
  | .shl => some (.int k (k.wrap (a * 2 ^ (min b.toNat k.bits))))
  | .shr => some (.int k (a.fdiv (2 ^ (min b.toNat k.bits))))
  | _ => none

def aStr (op : BinOp) (a b : ByteArray) : Option Value :=
  match op with
  | .add => if ((a.size + b.size : Nat) : Int) > IntKind.i64.max then none else some (.string (a ++ b))
  | .eql => some (.bool (a.toList == b.toList))
  | .neq => some (.bool !(a.toList == b.toList))
  | .lss => some (.bool (Op.bytesLess a.toList b.toList))
  | .leq => some (.bool (Op.bytesLess a.toList b.toList || a.toList == b.toList))
  | .gtr => some (.bool !(Op.bytesLess a.toList b.toList || a.toList == b.toList))
  | .geq => some (.bool !(Op.bytesLess a.toList b.toList))
  | _ => none

/-- Values of which the model's guard of '==' takes no notice. -/
def unguarded (E : Env P) (t : TypeId) : Value → Bool
  | .nilIface => false
  | .iface _ _ => false
  | .agg _ => E.egt t
  | _ => true

def aBin (E : Env P) (op : BinOp) (t : TypeId) (x y : Value) : Option Value :=
  match x, y with
  | .int k a, .int k' b => match op with
    | .shl | .shr => aShift op k a b
    | _ => if k = k' then aInt op k a b else none
  | .string a, .string b => aStr op a b
  | _, _ => if unguarded E t x then (match op with
    | .eql => (aEqual E 100 t x y).map fun b => .bool b
    | .neq => (aEqual E 100 t x y).map fun b => .bool !b
    | _ => none) else none

theorem aInt_run {op : BinOp} {k : IntKind} {a b : Int} {v : Value} {t : TypeId} {w : World} (h : aInt op k a b = some v) : (binOp op t (.int k a) (.int k b)).run P w = .ok v w ∧ flat v = true := by
  cases op <;> simp only [aInt] at h
  case quo =>
    split at h
    · cases h
    · rename_i hb; cases h; exact ⟨by simp [binOp, Op.intDiv, hb], rfl⟩
  case rem =>
    split at h
    · cases h
    · rename_i hb; cases h; exact ⟨by simp [binOp, Op.intDiv, hb], rfl⟩
  all_goals first
    | (cases h; done)
    | (cases h; refine ⟨?_, rfl⟩; simp only [binOp, ne_eq, not_true_eq_false, if_false, Op.intArith, Op.intBits, Op.intCmp]; rfl)

theorem aShift_run {op : BinOp} {k k' : IntKind} {a b : Int} {v : Value} {t : TypeId} {w : World} (h : aShift op k a b = some v) : (binOp op t (.int k a) (.int k' b)).run P w = .ok v w ∧ flat v = true := by
  unfold aShift at h
  split at h
  · cases h
  · rename_i hb
    split at h
    · cases h; exact ⟨by simp [binOp, Op.shift, hb], rfl⟩
    · cases h; exact ⟨by simp [binOp, Op.shift, hb], rfl⟩
    · cases h

theorem aStr_run {op : BinOp} {a b : ByteArray} {v : Value} {t : TypeId} {w : World} (h : aStr op a b = some v) : (binOp op t (.string a) (.string b)).run P w = .ok v w ∧ flat v = true := by
  unfold aStr at h
  split at h
  · split at h
    · cases h
    · rename_i hb
      cases h
      refine ⟨?_, rfl⟩
      simp only [binOp, Op.stringOp]
      rw [if_neg hb]; rfl
  all_goals first
    | (cases h; exact ⟨by simp [binOp, Op.stringOp], rfl⟩)
    | cases h

theorem run_guard_int {op : BinOp} {t : TypeId} {x y : Operand} {k k' : IntKind} {a b : Int} {w : World} : (eqGuard op t x y (.int k a) (.int k' b)).run P w = .ok () w := by
  unfold eqGuard; cases op <;> simp
theorem run_guard_string {op : BinOp} {t : TypeId} {x y : Operand} {a b : ByteArray} {w : World} : (eqGuard op t x y (.string a) (.string b)).run P w = .ok () w := by
  unfold eqGuard; cases op <;> simp

theorem run_guard {E : Env P} {op : BinOp} {t : TypeId} {x y : Operand} {p p' q : Value} {ι : Inj} {w : World} (hp : VR ι p p') (h : unguarded E t p = true) : (eqGuard op t x y p' q).run P w = .ok () w := by
  unfold eqGuard
  cases hp with
  | agg hs hh =>
    have := E.egt_ok t h
    cases op <;> cases q <;> simp [this]
  | nilIface => simp [unguarded] at h
  | _ => cases op <;> cases q <;> simp

theorem run_bin_eql {E : Env P} {t : TypeId} {x y x' y' : Value} {b : Bool} {ι : Inj} {w : World} (h : aEqual E 100 t x y = some b) (hx : VR ι x x') (hy : VR ι y y')
    (hi : ∀ k a k' b, ¬ (x = .int k a ∧ y = .int k' b)) (hs : ∀ a b, ¬ (x = .string a ∧ y = .string b)) :
    (binOp .eql t x' y').run P w = .ok (.bool b) w ∧ (binOp .neq t x' y').run P w = .ok (.bool !b) w := by
  have he := aEqual_sim (E := E) (w := w) 100 9900 t x y b x' y' h hx hy
  have he' : (Op.equal t x' y').run P w = .ok b w := he
  have key : binOp .eql t x' y' = (do pure (.bool (← Op.equal t x' y'))) ∧ binOp .neq t x' y' = (do pure (.bool (!(← Op.equal t x' y')))) := by
    cases hx with
    | int k n => cases hy with
      | int k' m => exact absurd ⟨rfl, rfl⟩ (hi _ _ _ _)
      | _ => exact ⟨rfl, rfl⟩
    | string a => cases hy with
      | string b => exact absurd ⟨rfl, rfl⟩ (hs _ _)
      | _ => exact ⟨rfl, rfl⟩
    | _ => cases hy <;> exact ⟨rfl, rfl⟩
  rw [key.1, key.2]
  simp [he']

theorem aBin_sim {E : Env P} {op : BinOp} {t : TypeId} {x y x' y' v : Value} {ox oy : Operand} {ι : Inj} {w : World} (h : aBin E op t x y = some v) (hx : VR ι x x') (hy : VR ι y y') :
    ∃ v', (do eqGuard op t ox oy x' y'; binOp op t x' y' : Sem Value).run P w = .ok v' w ∧ VR ι v v' := by
  unfold aBin at h
  split at h
  · rename_i k a k' b
    obtain rfl := hx.int_inv
    obtain rfl := hy.int_inv
    have fin : (binOp op t (.int k a) (.int k' b)).run P w = .ok v w ∧ flat v = true → ∃ v', (do eqGuard op t ox oy (.int k a) (.int k' b); binOp op t (.int k a) (.int k' b) : Sem Value).run P w = .ok v' w ∧ VR ι v v' :=
      fun hh => ⟨v, by simp [run_guard_int, hh.1], flat_refl hh.2⟩
    split at h
    · exact fin (aShift_run h)
    · exact fin (aShift_run h)
    · split at h
      · rename_i hk; subst hk; exact fin (aInt_run h)
      · cases h
  · rename_i a b
    obtain rfl := hx.string_inv
    obtain rfl := hy.string_inv
    obtain ⟨h1, h2⟩ := aStr_run (P := P) (t := t) (w := w) h
    exact ⟨v, by simp [run_guard_string, h1], flat_refl h2⟩
  · rename_i hni hns
    split at h
    · rename_i hg
      have hgr := run_guard (op := op) (x := ox) (y := oy) (q := y') (w := w) hx hg
      split at h
      · cases he : aEqual E 100 t x y with
        | none => rw [he] at h; cases h
        | some b =>
          rw [he] at h; cases h
          have := run_bin_eql (w := w) he hx hy (fun k a k' b e => hni _ _ _ _ e.1 e.2) (fun a b e => hns _ _ e.1 e.2)
          exact ⟨.bool b, by simp [hgr, this.1], .bool b⟩
      · cases he : aEqual E 100 t x y with
        | none => rw [he] at h; cases h
        | some b =>
          rw [he] at h; cases h
          have := run_bin_eql (w := w) he hx hy (fun k a k' b e => hni _ _ _ _ e.1 e.2) (fun a b e => hns _ _ e.1 e.2)
          exact ⟨.bool !b, by simp [hgr, this.2], .bool _⟩
      · cases h
    · cases h

/-! ### Unary, conversions -/
def aUn (op : UnOp) (x : Value) : Option Value :=
  match op, x with
  | .neg, .int k n => some (.int k (k.wrap (0 - n)))
  | .not, .bool b => some (.bool !b)
  | .xor, .int k n => aInt .xor k (if k.signed then -1 else k.max) n
  | _, _ => none

theorem aUn_sim {op : UnOp} {x x' v : Value} {ι : Inj} {w : World} (h : aUn op x = some v) (hx : VR ι x x') : ∃ v', (Op.unary op x').run P w = .ok v' w ∧ VR ι v v' := by
  unfold aUn at h
  split at h
  · cases h; obtain rfl := hx.int_inv
    exact ⟨_, by simp [Op.unary, Op.intArith], .int _ _⟩
  · cases h; obtain rfl := hx.bool_inv
    exact ⟨_, by simp [Op.unary], .bool _⟩
  · obtain rfl := hx.int_inv
    simp only [aInt, Option.some.injEq] at h
    subst h
    exact ⟨_, by simp [Op.unary, Op.intBits], .int _ _⟩
  · cases h

/-- Bytes out of cells that hold numbers of 8 bits. -/
def aBytes : List Value → ByteArray → Option ByteArray
  | [], acc => some acc
  | .int .u8 n :: r, acc => aBytes r (acc.push (UInt8.ofNat n.toNat))
  | _ :: _, _ => none

def aConvert (E : Env P) (src dst : TypeId) (x : Value) (A : AHeap) : Option Value :=
  match E.und src, E.und dst, x with
  | some _, some (.int k), .int _ n => some (.int k (k.wrap n))
  | some _, some .string, .string s => some (.string s)
  | some (.slice e), some .string, .slice a n c => match E.und e with
    | some (.int .u8) => match aFirst 1 n (.slice a n c) A with
      | some l => (aBytes l .empty).map fun s => .string s
      | none => none
    | _ => none
  | some (.pointer t), some .unsafePointer, .pointer (some ⟨i, off, none⟩) => match A.obj i, E.inf t with
    | some (.cells _ _ n _ _), some info => if 0 < info.size && off < n then some (.pointer (some ⟨i, off, none⟩)) else none
    | _, _ => none
  | _, _, _ => none

theorem run_bytes {ι : Inj} {w : World} : ∀ {l l' : List Value} {acc s : ByteArray}, VRl ι l l' → aBytes l acc = some s →
    (forIn l' acc (fun c s => (match c with
        | .int .u8 n => pure (ForInStep.yield (s.push (UInt8.ofNat n.toNat)))
        | _ => do
          (stuck "bytesToString: byte expected" : Sem PUnit)
          pure (ForInStep.yield s) : Sem (ForInStep ByteArray)))).run P w = .ok s w
  | [], l', acc, s, hl, h => by obtain rfl := hl.inv_nil; simp [aBytes] at h; subst h; simp
  | x :: l, l', acc, s, hl, h => by
    obtain ⟨x', l'', rfl, h1, h2⟩ := hl.inv_cons
    unfold aBytes at h
    split at h
    · rename_i heq; cases heq
    · rename_i heq; cases heq
      obtain rfl := h1.int_inv
      have := run_bytes (w := w) h2 h
      simp only [List.forIn_cons, Sem.run_bind, Sem.run_pure, Result.andThen_ok]
      exact this
    · cases h

theorem aConvert_sim {E : Env P} {src dst : TypeId} {x x' v : Value} {A : AHeap} {ι : Inj} {w : World} (h : aConvert E src dst x A = some v) (hx : VR ι x x') (hr : Real ι A w) :
    ∃ v', (convert src dst x').run P w = .ok v' w ∧ VR ι v v' := by
  unfold aConvert at h
  split at h
  · rename_i sd k k' n hs hd
    cases h; obtain rfl := hx.int_inv
    refine ⟨_, ?_, .int _ _⟩
    cases sd <;> simp [convert, run_underlying (E.und_ok _ _ hs), run_underlying (E.und_ok _ _ hd), Conv.intToInt]
  · rename_i sd s hs hd
    cases h; obtain rfl := hx.string_inv
    refine ⟨_, ?_, .string _⟩
    cases sd <;> simp [convert, run_underlying (E.und_ok _ _ hs), run_underlying (E.und_ok _ _ hd)]
  · rename_i e a n c hs hd
    split at h
    · rename_i he
      split at h
      · rename_i l hl
        cases hb : aBytes l .empty with
        | none => rw [hb] at h; cases h
        | some s =>
          rw [hb] at h; cases h
          obtain ⟨l', f1, f2⟩ := aFirst_sim (P := P) hl hx hr
          obtain ⟨a', c', rfl, _⟩ := hx.slice_len
          refine ⟨.string s, ?_, .string _⟩
          have f1' := f1 w rfl
          have hnl : VRl ι l l'.toList := by simpa using f2.to_list
          have hrun := run_bytes (P := P) (w := w) hnl hb
          cases a' with
          | none =>
            simp [Builtin.firstCells] at f1'
            subst f1'
            simp at hrun
            subst hrun
            simp [convert, run_underlying (E.und_ok _ _ hs), run_underlying (E.und_ok _ _ hd), run_underlying (E.und_ok _ _ he), Conv.bytesToString]
          | some a' =>
            simp only [Builtin.firstCells, Nat.mul_one] at f1'
            simp only [convert, Sem.run_bind, run_underlying (E.und_ok _ _ hs), run_underlying (E.und_ok _ _ hd), run_underlying (E.und_ok _ _ he), Result.andThen_ok, Conv.bytesToString, f1']
            rw [← Array.forIn_toList]
            refine (congrArg (fun r => Result.andThen r _) hrun).trans ?_
            simp
      · cases h
    · cases h
  · rename_i t i off hs hd
    split at h
    · rename_i ro es n z c info hi hinf
      split at h
      · rename_i hc
        cases h
        simp only [Bool.and_eq_true, decide_eq_true_eq] at hc
        obtain ⟨l, hl, C, tt, fz, h1, h2, h3, h4, h5⟩ := hr.cells hi
        cases hx with
        | ptr hl' =>
          rw [hl] at hl'; cases hl'
          refine ⟨_, ?_, .ptr hl⟩
          have hlt : ¬ C.size ≤ l.sh + off := by omega
          have hsz : info.size ≠ 0 := by omega
          have hsh : w.shape? l.blk = some (tt, C.size) := by simp [World.shape?, h1]
          simp [convert, run_underlying (E.und_ok _ _ hs), run_underlying (E.und_ok _ _ hd), Conv.unsafePointer, Conv.seenAt, viewAt, cellsIn, hsh, run_sizeOf (E.inf_ok _ _ hinf), hsz, hlt]
      · cases h
    · cases h
  · cases h

end Go.Abs

/- An operation of the abstract machine, whichever it is (calls of functions apart). -/
namespace Go.Abs
open Go
variable {P : Program}

def evList (ρ : Operand → Option Value) : List Operand → Option (List Value)
  | [] => some []
  | x :: r => match ρ x with
    | none => none
    | some v => match evList ρ r with
      | none => none
      | some l => some (v :: l)

theorem evList_sim {ι : Inj} {ρ : Operand → Option Value} {σ : Operand → Value} (hρ : ∀ x v, ρ x = some v → VR ι v (σ x)) : ∀ {xs : List Operand} {l : List Value},
    evList ρ xs = some l → VRl ι l (xs.map σ)
  | [], l, h => by simp [evList] at h; subst h; exact .nil
  | x :: r, l, h => by
    simp only [evList] at h
    split at h
    · cases h
    rename_i v hv
    split at h
    · cases h
    rename_i l' hl
    cases h
    exact .cons (hρ _ _ hv) (evList_sim hρ hl)

def evOpt (ρ : Operand → Option Value) : Option Operand → Option (Option Value)
  | none => some none
  | some x => match ρ x with
    | none => none
    | some v => some (some v)

theorem evOpt_sim {ι : Inj} {ρ : Operand → Option Value} {σ : Operand → Value} (hρ : ∀ x v, ρ x = some v → VR ι v (σ x)) {x : Option Operand} {r : Option Value}
    (h : evOpt ρ x = some r) : OR ι r (x.map σ) := by
  cases x with
  | none => simp [evOpt] at h; subst h; exact .none
  | some x =>
    simp only [evOpt] at h
    split at h
    · cases h
    · rename_i v hv; cases h; exact .some (hρ _ _ hv)

def aNilCheck : Value → Option Value
  | .pointer (some a) => some (.pointer (some a))
  | .func (.func f) a c => some (.func (.func f) a c)
  | .func (.yield l) a c => some (.func (.yield l) a c)
  | _ => none

def aBuiltin (E : Env P) (b : Builtin) (ts : Array TypeId) (args : List Value) (A : AHeap) : Option (Value × AHeap) :=
  match b, args, ts.toList with
  | .len, [x], [t] => (aLen E t x A).map fun v => (v, A)
  | .cap, [x], [t] => (aCap E t x).map fun v => (v, A)
  | .append, [s, x], [t, tx] => aAppend E t tx s x A
  | .copy, [d, s], t :: _ => aCopy E t d s A
  | .min, l, _ => (aMin l).map fun v => (v, A)
  | .max, l, _ => (aMax l).map fun v => (v, A)
  | _, _, _ => none

def aop (E : Env P) (o : Oper) (ρ : Operand → Option Value) (A : AHeap) : Option (Value × AHeap) :=
  match o.op with
  | .move x | .assign x => match ρ x with
    | some v => some (v, A)
    | none => none
  | .pick c a b => match ρ c, ρ a, ρ b with
    | some (.bool t), some x, some y => some (if t then x else y, A)
    | _, _, _ => none
  | .alloc t => aAlloc E t A
  | .box _ x => match ρ x with
    | some v => some (aBox v A)
    | none => none
  | .build t parts => match evParts ρ parts.toList with
    | some ps => match aBuild E t ps with
      | some v => some (v, A)
      | none => none
    | none => none
  | .buildSlice t len parts => match evParts ρ parts.toList with
    | some ps => aBuildSlice E t len ps A
    | none => none
  | .load t x => match ρ x with
    | some p => match aLoad E t p A with
      | some v => some (v, A)
      | none => none
    | none => none
  | .store t x y => match ρ x, ρ y with
    | some p, some v => match aStore E t p v A with
      | some A' => some (undef, A')
      | none => none
    | _, _ => none
  | .nilCheck x => match ρ x with
    | some p => match aNilCheck p with
      | some v => some (v, A)
      | none => none
    | none => none
  | .binOp op t x y _ => match ρ x, ρ y with
    | some p, some q => match aBin E op t p q with
      | some v => some (v, A)
      | none => none
    | _, _ => none
  | .unOp op _ x => match ρ x with
    | some p => match aUn op p with
      | some v => some (v, A)
      | none => none
    | none => none
  | .convert s d x => match ρ x with
    | some p => match aConvert E s d p A with
      | some v => some (v, A)
      | none => none
    | none => none
  | .makeFunc (.func f) first captured => match evList ρ first.toList, evList ρ captured.toList with
    | some a, some c => some (.func (.func f) a.toArray c.toArray, A)
    | _, _ => none
  | .makeMap _ none => some (.map (some A.next), A.push (.map []))
  | .makeSlice t l c => match ρ l, ρ c with
    | some x, some y => aMakeSlice E t x y A
    | _, _ => none
  | .slice t x lo hi mx => match ρ x, evOpt ρ lo, evOpt ρ hi, evOpt ρ mx with
    | some v, some l, some h, some m => match aSlice E t v l h m A with
      | some r => some (r, A)
      | none => none
    | _, _, _, _ => none
  | .fieldAddr t x f => match ρ x with
    | some p => match aFieldAddr E t p f with
      | some v => some (v, A)
      | none => none
    | none => none
  | .field t x f => match ρ x with
    | some p => match aField E t p f with
      | some v => some (v, A)
      | none => none
    | none => none
  | .indexAddr t x i => match ρ x, ρ i with
    | some p, some q => match aIndexAddr E t p q with
      | some v => some (v, A)
      | none => none
    | _, _ => none
  | .index t x i => match ρ x, ρ i with
    | some p, some q => match aIndex E t p q with
      | some v => some (v, A)
      | none => none
    | _, _ => none
  | .lookup t m k ok => match ρ m, ρ k with
    | some p, some q => match aLookup E t p q ok A with
      | some v => some (v, A)
      | none => none
    | _, _ => none
  | .mapUpdate t m k v | .insert t m k v => match ρ m, ρ k, ρ v with
    | some p, some q, some r => match aMapUpdate E t p q r A with
      | some A' => some (undef, A')
      | none => none
    | _, _, _ => none
  | .extract x i => match ρ x with
    | some p => match aExtract p i with
      | some v => some (v, A)
      | none => none
    | none => none
  | .call c => match c.callee with
    | .builtin b => match evList ρ c.args.toList with
      | some l => aBuiltin E b c.argTypes l A
      | none => none
    | _ => none
  | _ => none

def SimOp (P : Program) (o : Oper) (σ : Operand → Value) (ι : Inj) (A : AHeap) (w : World) (v : Value) (A' : AHeap) : Prop :=
  ∃ ι' w' v' x, (execOp σ o).run P w = .ok x w' ∧ (x = .value v' ∨ x = .skip ∧ v' = undef) ∧ VR ι' v v' ∧ Real ι' A' w' ∧ Ext ι A w ι' A' w'

theorem SimOp.ofV {o : Oper} {σ : Operand → Value} {s : Sem Value} {ι : Inj} {A A' : AHeap} {w : World} {v : Value} (he : execOp σ o = (do pure (.value (← s)))) (h : SimV P s ι A w v A') : SimOp P o σ ι A w v A' := by
  obtain ⟨ι', w', v', h1, h2, h3, h4⟩ := h
  exact ⟨ι', w', v', .value v', by rw [he]; simp [h1], .inl rfl, h2, h3, h4⟩
theorem SimOp.ofP {o : Oper} {σ : Operand → Value} {s : Sem Value} {ι : Inj} {A : AHeap} {w : World} {v : Value} (hr : Real ι A w) (he : execOp σ o = (do pure (.value (← s))))
    (h : ∃ v', s.run P w = .ok v' w ∧ VR ι v v') : SimOp P o σ ι A w v A := by
  obtain ⟨v', h1, h2⟩ := h
  exact SimOp.ofV he (SimV.pure hr h1 h2)
theorem SimOp.ofU {o : Oper} {σ : Operand → Value} {s : Sem Unit} {ι : Inj} {A A' : AHeap} {w : World} (he : execOp σ o = (do s; pure .skip))
    (h : ∃ w', s.run P w = .ok () w' ∧ Real ι A' w' ∧ Ext ι A w ι A' w') : SimOp P o σ ι A w undef A' := by
  obtain ⟨w', h1, h2, h3⟩ := h
  exact ⟨ι, w', undef, .skip, by rw [he]; simp [h1], .inr ⟨rfl, rfl⟩, VR.undef ι, h2, h3⟩

theorem execOp_builtin {σ : Operand → Value} {o : Oper} {c : Call} {b : Builtin} (ho : o.op = .call c) (hc : c.callee = .builtin b) :
    execOp σ o = builtin b c.argTypes o.type (c.args.map fun | .const _ => true | _ => false) (c.args.map σ) := by
  unfold execOp; rw [ho]; simp only [resolve, hc]; rfl

theorem aop_sim {E : Env P} {o : Oper} {ρ : Operand → Option Value} {σ : Operand → Value} {A A' : AHeap} {v : Value} {ι : Inj} {w : World} (h : aop E o ρ A = some (v, A'))
    (hρ : ∀ x v, ρ x = some v → VR ι v (σ x)) (hr : Real ι A w) (hF : Fresh ι A A') : SimOp P o σ ι A w v A' := by
  unfold aop at h
  split at h
  · -- move
    rename_i x ho
    split at h
    · rename_i p hp; cases h
      exact ⟨ι, w, σ x, .value (σ x), by simp [execOp, ho], .inl rfl, hρ _ _ hp, hr, Ext.refl _ _ _⟩
    · cases h
  · -- assign
    rename_i x ho
    split at h
    · rename_i p hp; cases h
      exact ⟨ι, w, σ x, .value (σ x), by simp [execOp, ho], .inl rfl, hρ _ _ hp, hr, Ext.refl _ _ _⟩
    · cases h
  · -- pick
    rename_i c a b ho
    split at h
    · rename_i t x y hc ha hb; cases h
      have hc' := (hρ _ _ hc).bool_inv
      refine ⟨ι, w, if t then σ a else σ b, .value (if t then σ a else σ b), ?_, .inl rfl, ?_, hr, Ext.refl _ _ _⟩
      · simp [execOp, ho, hc', asBool]
      · cases t
        · exact hρ _ _ hb
        · exact hρ _ _ ha
    · cases h
  · rename_i t ho
    exact SimOp.ofV (s := Instr.alloc t true (.tuple #[])) (by unfold execOp; rw [ho]) (aAlloc_sim h hr hF)
  · rename_i t x ho
    split at h
    · rename_i p hp
      cases h
      exact SimOp.ofV (s := Instr.box t (σ x)) (by unfold execOp; rw [ho]) (aBox_sim hr (hF _ (Nat.le_refl _) (by simp [aBox])) (hρ _ _ hp))
    · cases h
  · rename_i t parts ho
    split at h
    · rename_i ps hps
      split at h
      · rename_i r hb; cases h
        refine SimOp.ofP hr (s := Instr.build t (parts.map fun (i, x) => (i, σ x))) (by unfold execOp; rw [ho]) ?_
        have := aBuild_sim (w := w) hb (evParts_sim hρ hps)
        rwa [← List.map_toArray, Array.toArray_toList] at this
      · cases h
    · cases h
  · rename_i t len parts ho
    split at h
    · rename_i ps hps
      refine SimOp.ofV (s := Instr.buildSlice t len (parts.map fun (i, x) => (i, σ x))) (by unfold execOp; rw [ho]) ?_
      have := aBuildSlice_sim h (evParts_sim hρ hps) hr hF
      rwa [← List.map_toArray, Array.toArray_toList] at this
    · cases h
  · rename_i t x ho
    split at h
    · rename_i p hp
      split at h
      · rename_i r hl; cases h
        exact SimOp.ofP hr (s := Instr.loadAt t (σ x)) (by unfold execOp; rw [ho]) (aLoad_sim hl (hρ _ _ hp) hr)
      · cases h
    · cases h
  · rename_i t x y ho
    split at h
    · rename_i p q hp hq
      split at h
      · rename_i B hs; cases h
        exact SimOp.ofU (s := Instr.storeAt t (σ x) (σ y)) (by unfold execOp; rw [ho]) (aStore_sim hs (hρ _ _ hp) (hρ _ _ hq) hr)
      · cases h
    · cases h
  · -- nilCheck
    rename_i x ho
    split at h
    · rename_i p hp
      split at h
      · rename_i r hn; cases h
        have hv := hρ _ _ hp
        refine ⟨ι, w, σ x, .value (σ x), ?_, .inl rfl, ?_, hr, Ext.refl _ _ _⟩
        · unfold aNilCheck at hn
          split at hn
          · generalize hσ : σ x = y at hv
            cases hv
            simp [execOp, ho, hσ]
          · generalize hσ : σ x = y at hv
            cases hv
            simp [execOp, ho, hσ]
          · generalize hσ : σ x = y at hv
            cases hv
            simp [execOp, ho, hσ]
          · cases hn
        · unfold aNilCheck at hn
          split at hn <;> first | (cases hn; exact hv) | cases hn
      · cases h
    · cases h
  · rename_i op t x y yt ho
    split at h
    · rename_i p q hp hq
      split at h
      · rename_i r hb; cases h
        exact SimOp.ofP hr (s := do eqGuard op t x y (σ x) (σ y); binOp op t (σ x) (σ y)) (by unfold execOp; rw [ho]) (aBin_sim hb (hρ _ _ hp) (hρ _ _ hq))
      · cases h
    · cases h
  · rename_i op t x ho
    split at h
    · rename_i p hp
      split at h
      · rename_i r hb; cases h
        exact SimOp.ofP hr (s := Op.unary op (σ x)) (by unfold execOp; rw [ho]) (aUn_sim hb (hρ _ _ hp))
      · cases h
    · cases h
  · rename_i s d x ho
    split at h
    · rename_i p hp
      split at h
      · rename_i r hb; cases h
        exact SimOp.ofP hr (s := convert s d (σ x)) (by unfold execOp; rw [ho]) (aConvert_sim hb (hρ _ _ hp) hr)
      · cases h
    · cases h
  · rename_i f first captured ho
    split at h
    · rename_i a c ha hc; cases h
      have h1 := (evList_sim hρ ha).to_array
      have h2 := (evList_sim hρ hc).to_array
      rw [← List.map_toArray, Array.toArray_toList] at h1 h2
      exact ⟨ι, w, .func (.func f) (first.map σ) (captured.map σ), .value (.func (.func f) (first.map σ) (captured.map σ)), by simp [execOp, ho, Instr.makeFunc], .inl rfl, .func h1.1 h1.2 h2.1 h2.2, hr, Ext.refl _ _ _⟩
    · cases h
  · rename_i t ho
    cases h
    exact SimOp.ofV (s := Instr.makeMap t none) (by unfold execOp; rw [ho]; rfl) (aMakeMap_sim hr (hF _ (Nat.le_refl _) (by simp)))
  · rename_i t l c ho
    split at h
    · rename_i x y hx hy
      exact SimOp.ofV (s := Instr.makeSlice t (σ l) (σ c)) (by unfold execOp; rw [ho]) (aMakeSlice_sim h (hρ _ _ hx) (hρ _ _ hy) hr hF)
    · cases h
  · rename_i t x lo hi mx ho
    split at h
    · rename_i p l hh m hp hl hh' hm
      split at h
      · rename_i r hb; cases h
        exact SimOp.ofP hr (s := Instr.sliceAt t (σ x) (lo.map σ) (hi.map σ) (mx.map σ)) (by unfold execOp; rw [ho]) (aSlice_sim hb (hρ _ _ hp) (evOpt_sim hρ hl) (evOpt_sim hρ hh') (evOpt_sim hρ hm) hr)
      · cases h
    · cases h
  · rename_i t x f ho
    split at h
    · rename_i p hp
      split at h
      · rename_i r hb; cases h
        exact SimOp.ofP hr (s := Instr.fieldAt t (σ x) f) (by unfold execOp; rw [ho]) (aFieldAddr_sim hb (hρ _ _ hp))
      · cases h
    · cases h
  · rename_i t x f ho
    split at h
    · rename_i p hp
      split at h
      · rename_i r hb; cases h
        exact SimOp.ofP hr (s := Instr.field t (σ x) f) (by unfold execOp; rw [ho]) (aField_sim hb (hρ _ _ hp))
      · cases h
    · cases h
  · rename_i t x i ho
    split at h
    · rename_i p q hp hq
      split at h
      · rename_i r hb; cases h
        exact SimOp.ofP hr (s := Instr.indexAt t (σ x) (σ i)) (by unfold execOp; rw [ho]) (aIndexAddr_sim hb (hρ _ _ hp) (hρ _ _ hq))
      · cases h
    · cases h
  · rename_i t x i ho
    split at h
    · rename_i p q hp hq
      split at h
      · rename_i r hb; cases h
        exact SimOp.ofP hr (s := Instr.index t (σ x) (σ i)) (by unfold execOp; rw [ho]) (aIndex_sim hb (hρ _ _ hp) (hρ _ _ hq))
      · cases h
    · cases h
  · rename_i t m k ok ho
    split at h
    · rename_i p q hp hq
      split at h
      · rename_i r hb; cases h
        exact SimOp.ofP hr (s := Instr.lookup t (σ m) (σ k) ok) (by unfold execOp; rw [ho]) (aLookup_sim hb (hρ _ _ hp) (hρ _ _ hq) hr)
      · cases h
    · cases h
  · rename_i t m k x ho
    split at h
    · rename_i p q r hp hq hx
      split at h
      · rename_i B hb; cases h
        exact SimOp.ofU (s := Instr.mapUpdate t (σ m) (σ k) (σ x)) (by unfold execOp; rw [ho]) (aMapUpdate_sim hb (hρ _ _ hp) (hρ _ _ hq) (hρ _ _ hx) hr)
      · cases h
    · cases h
  · rename_i t m k x ho
    split at h
    · rename_i p q r hp hq hx
      split at h
      · rename_i B hb; cases h
        exact SimOp.ofU (s := Instr.mapUpdate t (σ m) (σ k) (σ x)) (by unfold execOp; rw [ho]) (aMapUpdate_sim hb (hρ _ _ hp) (hρ _ _ hq) (hρ _ _ hx) hr)
      · cases h
    · cases h
  · rename_i x i ho
    split at h
    · rename_i p hp
      split at h
      · rename_i r hb; cases h
        exact SimOp.ofP hr (s := Instr.extract (σ x) i) (by unfold execOp; rw [ho]) (aExtract_sim hb (hρ _ _ hp))
      · cases h
    · cases h
  · rename_i c ho
    split at h
    · rename_i b hc
      split at h
      · rename_i l hl
        have hv := evList_sim hρ hl
        have he := execOp_builtin (σ := σ) ho hc
        have hargs : (c.args.map σ).toList = c.args.toList.map σ := by simp
        generalize c.args.map σ = args at he hargs
        obtain ⟨args⟩ := args
        simp only at hargs
        subst hargs
        generalize c.argTypes = ts at h he
        obtain ⟨ts⟩ := ts
        unfold aBuiltin at h
        split at h
        · rename_i x t hts'
          obtain ⟨x', r1, e1, v1, vr⟩ := hv.inv_cons
          obtain rfl := vr.inv_nil
          rw [e1] at he
          cases hb : aLen E t x A with
          | none => rw [hb] at h; cases h
          | some r =>
            rw [hb] at h; cases h
            exact SimOp.ofP hr (by rw [he]; rfl) (aLen_sim (ts := ⟨ts⟩) (by simp at hts'; simp [hts']) hb v1 hr)
        · rename_i x t hts'
          obtain ⟨x', r1, e1, v1, vr⟩ := hv.inv_cons
          obtain rfl := vr.inv_nil
          rw [e1] at he
          cases hb : aCap E t x with
          | none => rw [hb] at h; cases h
          | some r =>
            rw [hb] at h; cases h
            exact SimOp.ofP hr (by rw [he]; rfl) (aCap_sim (ts := ⟨ts⟩) (by simp at hts'; simp [hts']) hb v1)
        · rename_i s x t tx hts'
          obtain ⟨s', r1, e1, v1, vr⟩ := hv.inv_cons
          obtain ⟨x', r2, e2, v2, vr2⟩ := vr.inv_cons
          obtain rfl := vr2.inv_nil
          subst e2
          rw [e1] at he
          exact SimOp.ofV (by rw [he]; rfl) (aAppend_sim (by simp at hts'; simp [hts']) h v1 v2 hr hF)
        · rename_i d s t rest hts'
          obtain ⟨s', r1, e1, v1, vr⟩ := hv.inv_cons
          obtain ⟨x', r2, e2, v2, vr2⟩ := vr.inv_cons
          obtain rfl := vr2.inv_nil
          subst e2
          rw [e1] at he
          exact SimOp.ofV (by rw [he]; rfl) (aCopy_sim (by simp at hts'; simp [hts']) h v1 v2 hr)
        · obtain ⟨r, hb, e⟩ := Option.map_eq_some_iff.1 h
          cases e
          exact SimOp.ofP hr (by rw [he]; rfl) (aMin_sim hb (by simpa using hv))
        · obtain ⟨r, hb, e⟩ := Option.map_eq_some_iff.1 h
          cases e
          exact SimOp.ofP hr (by rw [he]; rfl) (aMax_sim hb (by simpa using hv))
        · cases h
      · cases h
    · cases h
  · cases h

end Go.Abs
