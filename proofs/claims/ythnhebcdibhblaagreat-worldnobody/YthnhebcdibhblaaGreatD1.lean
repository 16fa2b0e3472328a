/- Texts of this claim. -/
import Derived.Test.YthnhebcdibhblaaGreatC0
set_option linter.unusedSimpArgs false
set_option linter.unusedVariables false
namespace Go.Abs
open Go Go.Proofs
set_option linter.unusedSimpArgs false
set_option linter.unusedVariables false
variable {X0 : Ext0} {K : Value → AHeap → Prop} {A : AHeap}
theorem fits_spec (hw : WF A) (a b : Nat) (h : K (.bool (decide (a % 16 = 0 ∧ 3824 ≤ a ∧ a ≤ b))) A) : wCall E0 X0 35 [u a, u b] A K := by
  refine wCall_R fn35 s35 n35 r35 hw ?_
  by_cases h1 : a % 16 = 0 <;> by_cases h2 : 3824 ≤ a <;> by_cases h3 : a ≤ b <;> simp only [h1, h2, h3, and_true, and_false, true_and, false_and, decide_true, decide_false] at h
  all_goals
    simp [S35_0, S35_1, S35_2, S35_3, S35, r_skip, r_ops, r_draw, r_seq, r_blk, r_exit, r_ret, r_cond, k_seq, k_blk, x_seq, x_ret, x_exit, o_nil, o_on, o_never, o_call, o_move, a_move, o_assign, a_assign, o_pick, a_pick, o_alloc, a_alloc, o_box, a_box, o_build, a_build, o_buildSlice, a_buildSlice, o_load, a_load, o_store, a_store, o_nilCheck, a_nilCheck, o_binOp, a_binOp, o_unOp, a_unOp, o_convert, a_convert, o_makeFunc, a_makeFunc, o_makeMap, a_makeMap, o_makeSlice, a_makeSlice, o_slice, a_slice, o_fieldAddr, a_fieldAddr, o_field, a_field, o_indexAddr, a_indexAddr, o_index, a_index, o_lookup, a_lookup, o_mapUpdate, a_mapUpdate, o_extract, a_extract, o_bi, a_builtin, box_agg, box_uN, box_iv, box_int, box_bool, box_ptr, box_slice, box_map, box_func, box_string, gO_some, gIf_true, gIf_false, gG_tt, gG_tf, gG_ft, gG_ff, gG_undef, b1_some, b2_some, b3_some, bl_some, vA_some, hA_some, pickV_bool, updO_some, updO_none, evList_nil, evList_cons, evParts_nil, evParts_cons, evOpt_none', evOpt_some', e_ret, f_nil, gF_some, res_nil', res_tmp', res_cell', one1, one0, one2, one3, ev_tmp, ev_func, ev_u, ev_iv, ev_int, ev_bool, ev_nil, ev_nilSlice, ev_nilMap, ev_nilFunc, ev_string, upd_at, rhoL_at, k_top, x_top, List.getD_cons_zero, List.getD_cons_succ, List.getD_nil, reduceIte, Nat.reduceEqDiff, cond_true, cond_false, Bool.not_true, Bool.not_false, if_true, if_false, Nat.reduceEqDiff, un_not, reduceCtorEq, decide_true, decide_false, List.append_nil, List.nil_append, List.cons_append, bu_rem, bu_eql, bu_geq, bu_leq, h1, h2, h3]
    exact h

/-- A segment. -/
structure SegAt (A : AHeap) (i j n : Nat) (b : Nat → Nat) : Prop where
  ne : i ≠ j
  hdr : A.cell i 0 = some (.slice (some ⟨j, 0, none⟩) n n)
  row : ∃ z c, A.obj j = some (.cells false 1 n z c)
  val : ∀ k, k < n → A.cell j k = some (u8 (b k))
  byte : ∀ k, b k < 256
  big : n ≤ 1048576
theorem SegAt.kp {A B : AHeap} {i j n : Nat} {b : Nat → Nat} (h : SegAt A i j n b) (hA : WF A) (hk : Kp A B) : SegAt B i j n b :=
  ⟨h.ne, hk.cell hA h.hdr, let ⟨z, c, e⟩ := h.row; ⟨z, c, hk.obj hA e⟩, fun k hk' => hk.cell hA (h.val k hk'), h.byte, h.big⟩

theorem lenSl {t n c : Nat} {a : Option Addr} {A : AHeap} (h : ∃ e, E0.und t = some (.slice e)) : aBuiltin E0 .len #[t] [.slice a n c] A = some (iv n, A) := by
  obtain ⟨e, he⟩ := h
  simp only [aBuiltin, aLen, he, goInt, Option.map_some]; rfl
theorem len86 {n c : Nat} {a : Option Addr} {A : AHeap} : aBuiltin E0 .len #[86] [.slice a n c] A = some (iv n, A) := lenSl ⟨5, by kernel_rfl⟩
theorem cvInt {s t : Nat} {k k' : IntKind} {n : Int} {A : AHeap} (hs : (E0.und s).isSome = true) (ht : E0.und t = some (.int k)) : aConvert E0 s t (.int k' n) A = some (.int k (k.wrap n)) := by
  obtain ⟨d, hd⟩ := Option.isSome_iff_exists.1 hs
  unfold aConvert
  rw [hd, ht]
theorem cv3_22 {n : Nat} (h : n < 18446744073709551616) : aConvert E0 3 22 (iv (n : Int)) A = some (u n) := by
  unfold iv
  rw [cvInt (k := .u64) (by kernel_rfl) (by kernel_rfl), wrap_u64, Nat.mod_eq_of_lt h]; rfl
theorem cv22_5 {n : Nat} : aConvert E0 22 5 (u n) A = some (u8 (n % 256)) := by
  unfold u
  rw [cvInt (k := .u8) (by kernel_rfl) (by kernel_rfl), wrap_u8]; rfl
theorem ptr_ne {i off : Nat} {t : Nat} (h : ∃ e, E0.und t = some (.pointer e)) : aBin E0 .eql t (ptr i off) (.pointer none) = some (.bool false) := by
  obtain ⟨e, he⟩ := h
  simp [aBin, unguarded, aEqual, he]

theorem size_spec {i j n : Nat} {b : Nat → Nat} (hw : WF A) (hs : SegAt A i j n b) (h : K (u n) A) : wCall E0 X0 36 [ptr i 0] A K := by
  refine wCall_R fn36 s36 n36 r36 hw ?_
  have hb := hs.big
  simp [S36_0, S36_1, S36_2, S36_3, S36_4, S36_5, S36_6, S36_7, S36_8, S36_9, S36, r_skip, r_ops, r_draw, r_seq, r_blk, r_exit, r_ret, r_cond, k_seq, k_blk, x_seq, x_ret, x_exit, o_nil, o_on, o_never, o_call, o_move, a_move, o_assign, a_assign, o_pick, a_pick, o_alloc, a_alloc, o_box, a_box, o_build, a_build, o_buildSlice, a_buildSlice, o_load, a_load, o_store, a_store, o_nilCheck, a_nilCheck, o_binOp, a_binOp, o_unOp, a_unOp, o_convert, a_convert, o_makeFunc, a_makeFunc, o_makeMap, a_makeMap, o_makeSlice, a_makeSlice, o_slice, a_slice, o_fieldAddr, a_fieldAddr, o_field, a_field, o_indexAddr, a_indexAddr, o_index, a_index, o_lookup, a_lookup, o_mapUpdate, a_mapUpdate, o_extract, a_extract, o_bi, a_builtin, box_agg, box_uN, box_iv, box_int, box_bool, box_ptr, box_slice, box_map, box_func, box_string, gO_some, gIf_true, gIf_false, gG_tt, gG_tf, gG_ft, gG_ff, gG_undef, b1_some, b2_some, b3_some, bl_some, vA_some, hA_some, pickV_bool, updO_some, updO_none, evList_nil, evList_cons, evParts_nil, evParts_cons, evOpt_none', evOpt_some', e_ret, f_nil, gF_some, res_nil', res_tmp', res_cell', one1, one0, one2, one3, ev_tmp, ev_func, ev_u, ev_iv, ev_int, ev_bool, ev_nil, ev_nilSlice, ev_nilMap, ev_nilFunc, ev_string, upd_at, rhoL_at, k_top, x_top, List.getD_cons_zero, List.getD_cons_succ, List.getD_nil, reduceIte, Nat.reduceEqDiff, cond_true, cond_false, Bool.not_true, Bool.not_false, if_true, if_false, Nat.reduceEqDiff, un_not, reduceCtorEq, decide_true, decide_false, List.append_nil, List.nil_append, List.cons_append, fa56_1, ia49, ld48, fa56_0, ld37, ldA29, fa56_2, ld32, fa56_4, fa61_0, ld58, al64, fa64_2, ld3, fa56_3, ld34, fa64_0, ld4, fa61_1, fa64_1, al43, ldA43, ia32, fa45_2, fa45_4, fa45_5, al76, ld22, ld76, fa54_2, fa88_0, ld86, ia86, fa120_1, ld117, fa120_0, ld70, al22, ld5, ptr_ne (t := 37) ⟨88, by kernel_rfl⟩, aNilCheck, hs.hdr, len86, cv3_22 (n := n) (by omega)]
  exact h
theorem mix_spec {n : Nat} (hw : WF A) (h : K (u (n * 11400714819323198485 % 18446744073709551616)) A) : wCall E0 X0 52 [u n] A K := by
  refine wCall_R fn52 s52 n52 r52 hw ?_
  simp [S52_0, S52_1, S52_2, S52_3, S52, r_skip, r_ops, r_draw, r_seq, r_blk, r_exit, r_ret, r_cond, k_seq, k_blk, x_seq, x_ret, x_exit, o_nil, o_on, o_never, o_call, o_move, a_move, o_assign, a_assign, o_pick, a_pick, o_alloc, a_alloc, o_box, a_box, o_build, a_build, o_buildSlice, a_buildSlice, o_load, a_load, o_store, a_store, o_nilCheck, a_nilCheck, o_binOp, a_binOp, o_unOp, a_unOp, o_convert, a_convert, o_makeFunc, a_makeFunc, o_makeMap, a_makeMap, o_makeSlice, a_makeSlice, o_slice, a_slice, o_fieldAddr, a_fieldAddr, o_field, a_field, o_indexAddr, a_indexAddr, o_index, a_index, o_lookup, a_lookup, o_mapUpdate, a_mapUpdate, o_extract, a_extract, o_bi, a_builtin, box_agg, box_uN, box_iv, box_int, box_bool, box_ptr, box_slice, box_map, box_func, box_string, gO_some, gIf_true, gIf_false, gG_tt, gG_tf, gG_ft, gG_ff, gG_undef, b1_some, b2_some, b3_some, bl_some, vA_some, hA_some, pickV_bool, updO_some, updO_none, evList_nil, evList_cons, evParts_nil, evParts_cons, evOpt_none', evOpt_some', e_ret, f_nil, gF_some, res_nil', res_tmp', res_cell', one1, one0, one2, one3, ev_tmp, ev_func, ev_u, ev_iv, ev_int, ev_bool, ev_nil, ev_nilSlice, ev_nilMap, ev_nilFunc, ev_string, upd_at, rhoL_at, k_top, x_top, List.getD_cons_zero, List.getD_cons_succ, List.getD_nil, reduceIte, Nat.reduceEqDiff, cond_true, cond_false, Bool.not_true, Bool.not_false, if_true, if_false, Nat.reduceEqDiff, un_not, reduceCtorEq, decide_true, decide_false, List.append_nil, List.nil_append, List.cons_append, bu_mul]
  exact h
theorem in_spec {i j n off : Nat} {b : Nat → Nat} (hw : WF A) (hs : SegAt A i j n b) (h : K (.bool (decide (off % 8 = 0 ∧ off < n))) A) : wCall E0 X0 50 [ptr i 0, u off] A K := by
  refine wCall_R fn50 s50 n50 r50 hw ?_
  by_cases h1 : off % 8 = 0
  · simp [S50_0, S50_1, S50_2, S50_3, S50, r_skip, r_ops, r_draw, r_seq, r_blk, r_exit, r_ret, r_cond, k_seq, k_blk, x_seq, x_ret, x_exit, o_nil, o_on, o_never, o_call, o_move, a_move, o_assign, a_assign, o_pick, a_pick, o_alloc, a_alloc, o_box, a_box, o_build, a_build, o_buildSlice, a_buildSlice, o_load, a_load, o_store, a_store, o_nilCheck, a_nilCheck, o_binOp, a_binOp, o_unOp, a_unOp, o_convert, a_convert, o_makeFunc, a_makeFunc, o_makeMap, a_makeMap, o_makeSlice, a_makeSlice, o_slice, a_slice, o_fieldAddr, a_fieldAddr, o_field, a_field, o_indexAddr, a_indexAddr, o_index, a_index, o_lookup, a_lookup, o_mapUpdate, a_mapUpdate, o_extract, a_extract, o_bi, a_builtin, box_agg, box_uN, box_iv, box_int, box_bool, box_ptr, box_slice, box_map, box_func, box_string, gO_some, gIf_true, gIf_false, gG_tt, gG_tf, gG_ft, gG_ff, gG_undef, b1_some, b2_some, b3_some, bl_some, vA_some, hA_some, pickV_bool, updO_some, updO_none, evList_nil, evList_cons, evParts_nil, evParts_cons, evOpt_none', evOpt_some', e_ret, f_nil, gF_some, res_nil', res_tmp', res_cell', one1, one0, one2, one3, ev_tmp, ev_func, ev_u, ev_iv, ev_int, ev_bool, ev_nil, ev_nilSlice, ev_nilMap, ev_nilFunc, ev_string, upd_at, rhoL_at, k_top, x_top, List.getD_cons_zero, List.getD_cons_succ, List.getD_nil, reduceIte, Nat.reduceEqDiff, cond_true, cond_false, Bool.not_true, Bool.not_false, if_true, if_false, Nat.reduceEqDiff, un_not, reduceCtorEq, decide_true, decide_false, List.append_nil, List.nil_append, List.cons_append, bu_rem, bu_eql, h1]
    refine gC_call (size_spec hw hs ?_)
    simp [S50_0, S50_1, S50_2, S50_3, S50, r_skip, r_ops, r_draw, r_seq, r_blk, r_exit, r_ret, r_cond, k_seq, k_blk, x_seq, x_ret, x_exit, o_nil, o_on, o_never, o_call, o_move, a_move, o_assign, a_assign, o_pick, a_pick, o_alloc, a_alloc, o_box, a_box, o_build, a_build, o_buildSlice, a_buildSlice, o_load, a_load, o_store, a_store, o_nilCheck, a_nilCheck, o_binOp, a_binOp, o_unOp, a_unOp, o_convert, a_convert, o_makeFunc, a_makeFunc, o_makeMap, a_makeMap, o_makeSlice, a_makeSlice, o_slice, a_slice, o_fieldAddr, a_fieldAddr, o_field, a_field, o_indexAddr, a_indexAddr, o_index, a_index, o_lookup, a_lookup, o_mapUpdate, a_mapUpdate, o_extract, a_extract, o_bi, a_builtin, box_agg, box_uN, box_iv, box_int, box_bool, box_ptr, box_slice, box_map, box_func, box_string, gO_some, gIf_true, gIf_false, gG_tt, gG_tf, gG_ft, gG_ff, gG_undef, b1_some, b2_some, b3_some, bl_some, vA_some, hA_some, pickV_bool, updO_some, updO_none, evList_nil, evList_cons, evParts_nil, evParts_cons, evOpt_none', evOpt_some', e_ret, f_nil, gF_some, res_nil', res_tmp', res_cell', one1, one0, one2, one3, ev_tmp, ev_func, ev_u, ev_iv, ev_int, ev_bool, ev_nil, ev_nilSlice, ev_nilMap, ev_nilFunc, ev_string, upd_at, rhoL_at, k_top, x_top, List.getD_cons_zero, List.getD_cons_succ, List.getD_nil, reduceIte, Nat.reduceEqDiff, cond_true, cond_false, Bool.not_true, Bool.not_false, if_true, if_false, Nat.reduceEqDiff, un_not, reduceCtorEq, decide_true, decide_false, List.append_nil, List.nil_append, List.cons_append, bu_lss]
    simpa [h1] using h
  · simp [S50_0, S50_1, S50_2, S50_3, S50, r_skip, r_ops, r_draw, r_seq, r_blk, r_exit, r_ret, r_cond, k_seq, k_blk, x_seq, x_ret, x_exit, o_nil, o_on, o_never, o_call, o_move, a_move, o_assign, a_assign, o_pick, a_pick, o_alloc, a_alloc, o_box, a_box, o_build, a_build, o_buildSlice, a_buildSlice, o_load, a_load, o_store, a_store, o_nilCheck, a_nilCheck, o_binOp, a_binOp, o_unOp, a_unOp, o_convert, a_convert, o_makeFunc, a_makeFunc, o_makeMap, a_makeMap, o_makeSlice, a_makeSlice, o_slice, a_slice, o_fieldAddr, a_fieldAddr, o_field, a_field, o_indexAddr, a_indexAddr, o_index, a_index, o_lookup, a_lookup, o_mapUpdate, a_mapUpdate, o_extract, a_extract, o_bi, a_builtin, box_agg, box_uN, box_iv, box_int, box_bool, box_ptr, box_slice, box_map, box_func, box_string, gO_some, gIf_true, gIf_false, gG_tt, gG_tf, gG_ft, gG_ff, gG_undef, b1_some, b2_some, b3_some, bl_some, vA_some, hA_some, pickV_bool, updO_some, updO_none, evList_nil, evList_cons, evParts_nil, evParts_cons, evOpt_none', evOpt_some', e_ret, f_nil, gF_some, res_nil', res_tmp', res_cell', one1, one0, one2, one3, ev_tmp, ev_func, ev_u, ev_iv, ev_int, ev_bool, ev_nil, ev_nilSlice, ev_nilMap, ev_nilFunc, ev_string, upd_at, rhoL_at, k_top, x_top, List.getD_cons_zero, List.getD_cons_succ, List.getD_nil, reduceIte, Nat.reduceEqDiff, cond_true, cond_false, Bool.not_true, Bool.not_false, if_true, if_false, Nat.reduceEqDiff, un_not, reduceCtorEq, decide_true, decide_false, List.append_nil, List.nil_append, List.cons_append, bu_rem, bu_eql, h1]
    simpa [h1] using h
end Go.Abs

namespace Go.Abs
open Go Go.Proofs
set_option linter.unusedSimpArgs false
set_option linter.unusedVariables false
variable {X0 : Ext0} {K : Value → AHeap → Prop} {A : AHeap}
/-- Whose rows, but one, are as they were. -/
structure KpX (x : Nat) (A B : AHeap) : Prop where
  low : Low A B
  same : ∀ k, k < A.next → k ≠ x → B.obj k = A.obj k
theorem KpX.refl {x : Nat} (h : WF A) : KpX x A A := ⟨Low.refl h, fun _ _ _ => rfl⟩
theorem KpX.trans {x : Nat} {A B C : AHeap} (h : KpX x A B) (h' : KpX x B C) : KpX x A C :=
  ⟨h.low.trans h'.low, fun k hk hx => (h'.same k (Nat.lt_of_lt_of_le hk h.low.next) hx).trans (h.same k hk hx)⟩
theorem Kp.toX {x : Nat} {A B : AHeap} (h : Kp A B) : KpX x A B := ⟨h.low, fun k hk _ => h.same k hk⟩
theorem KpX.cell {x : Nat} {A B : AHeap} (h : KpX x A B) (hA : WF A) {i off : Nat} {v : Value} (hx : i ≠ x) (e : A.cell i off = some v) : B.cell i off = some v := by
  have := AHeap.cell_lt hA e
  unfold AHeap.cell at e ⊢
  rw [h.same i this hx]; exact e
theorem KpX.put {x off : Nat} {v : Value} (hA : WF A) (h : A.own x off) : KpX x A (A.put x off v) :=
  ⟨A.low_put hA h, fun k _ hx => AHeap.obj_put_other hx⟩

theorem box_u {n : Nat} : aBox (u n) A = (ptr A.next 0, A.push (.cells false 0 1 [] (T.ofList [u n]))) := rfl

theorem bu_shr8 {t a i : Nat} (hi : i < 8) : aBin E0 .shr t (u a) (iv (8 * (i : Int))) = some (u (a / 256 ^ i)) := by
  have e : (8 : Int) * (i : Int) = ((8 * i : Nat) : Int) := by omega
  rw [e, bu_shr (n := 8 * i) (by omega), Nat.pow_mul]
theorem store1_spec {b i v : Nat} (hw : WF A) (hb : A.cell b 0 = some (u v)) (hi : i < 8) (h : K (u8 (v / 256 ^ i % 256)) A) : wCall E0 X0 51 [iv (i : Int), ptr b 0] A K := by
  refine wCall_R fn51 s51 n51 r51 hw ?_
  simp [S51_0, S51_1, S51_2, S51_3, S51, r_skip, r_ops, r_draw, r_seq, r_blk, r_exit, r_ret, r_cond, k_seq, k_blk, x_seq, x_ret, x_exit, o_nil, o_on, o_never, o_call, o_move, a_move, o_assign, a_assign, o_pick, a_pick, o_alloc, a_alloc, o_box, a_box, o_build, a_build, o_buildSlice, a_buildSlice, o_load, a_load, o_store, a_store, o_nilCheck, a_nilCheck, o_binOp, a_binOp, o_unOp, a_unOp, o_convert, a_convert, o_makeFunc, a_makeFunc, o_makeMap, a_makeMap, o_makeSlice, a_makeSlice, o_slice, a_slice, o_fieldAddr, a_fieldAddr, o_field, a_field, o_indexAddr, a_indexAddr, o_index, a_index, o_lookup, a_lookup, o_mapUpdate, a_mapUpdate, o_extract, a_extract, o_bi, a_builtin, box_agg, box_uN, box_iv, box_int, box_bool, box_ptr, box_slice, box_map, box_func, box_string, gO_some, gIf_true, gIf_false, gG_tt, gG_tf, gG_ft, gG_ff, gG_undef, b1_some, b2_some, b3_some, bl_some, vA_some, hA_some, pickV_bool, updO_some, updO_none, evList_nil, evList_cons, evParts_nil, evParts_cons, evOpt_none', evOpt_some', e_ret, f_nil, gF_some, res_nil', res_tmp', res_cell', one1, one0, one2, one3, ev_tmp, ev_func, ev_u, ev_iv, ev_int, ev_bool, ev_nil, ev_nilSlice, ev_nilMap, ev_nilFunc, ev_string, upd_at, rhoL_at, k_top, x_top, List.getD_cons_zero, List.getD_cons_succ, List.getD_nil, reduceIte, Nat.reduceEqDiff, cond_true, cond_false, Bool.not_true, Bool.not_false, if_true, if_false, Nat.reduceEqDiff, un_not, reduceCtorEq, decide_true, decide_false, List.append_nil, List.nil_append, List.cons_append, fa56_1, ia49, ld48, fa56_0, ld37, ldA29, fa56_2, ld32, fa56_4, fa61_0, ld58, al64, fa64_2, ld3, fa56_3, ld34, fa64_0, ld4, fa61_1, fa64_1, al43, ldA43, ia32, fa45_2, fa45_4, fa45_5, al76, ld22, ld76, fa54_2, fa88_0, ld86, ia86, fa120_1, ld117, fa120_0, ld70, al22, ld5, hb, bi_mul (a := 8) (b := (i : Int)) (by omega) (by omega), bu_shr8 hi, cv22_5]
  exact h

/-- The bytes of a word that is stored. -/
def stB (b : Nat → Nat) (off v t : Nat) : Nat → Nat := fun k => if off ≤ k ∧ k < off + t then v / 256 ^ (k - off) % 256 else b k
theorem SegAt.put {A : AHeap} {i j n : Nat} {b : Nat → Nat} {k x : Nat} (h : SegAt A i j n b) (hA : WF A) (hk : k < n) (hx : x < 256) : SegAt (A.put j k (u8 x)) i j n (fun q => if q = k then x else b q) := by
  have hown : A.own j k := by
    obtain ⟨z, c, e⟩ := h.row
    exact ⟨1, n, z, c, e, hk⟩
  refine ⟨h.ne, ?_, ?_, ?_, ?_, h.big⟩
  · rw [AHeap.cell_put hown, if_neg (fun e => h.ne e.1)]; exact h.hdr
  · obtain ⟨z, c, e⟩ := h.row
    rw [AHeap.put_of e]
    exact ⟨z, _, by rw [AHeap.obj_set, if_pos rfl]⟩
  · intro q hq
    rw [AHeap.cell_put hown]
    by_cases e : q = k
    · rw [if_pos ⟨rfl, e⟩, if_pos e]
    · rw [if_neg (fun h => e h.2), if_neg e]; exact h.val q hq
  · intro q
    show (if q = k then x else b q) < 256
    split
    · exact hx
    · exact h.byte q

theorem store_spec {i j n off v : Nat} {b : Nat → Nat} (hw : WF A) (hs : SegAt A i j n b) (h8 : n % 8 = 0) (ho : off % 8 = 0) (hn : off < n) (hv : v < 18446744073709551616)
    (h : ∀ A', KpX j A A' → SegAt A' i j n (stB b off v 8) → K (iv 0) A') : wCall E0 X0 37 [ptr i 0, u off, u v] A K := by
  refine wCall_R fn37 s37 n37 r37 hw ?_
  simp [S37_0, S37_1, S37_2, S37_3, S37_4, S37_5, S37_6, S37_7, S37_8, S37_9, S37_10, S37_11, S37_12, S37_13, S37_14, S37_15, S37_16, S37_17, S37_18, S37_19, S37_20, S37_21, S37_22, S37_23, S37_24, S37_25, S37_26, S37, r_skip, r_ops, r_draw, r_seq, r_blk, r_exit, r_ret, r_cond, k_seq, k_blk, x_seq, x_ret, x_exit, o_nil, o_on, o_never, o_call, o_move, a_move, o_assign, a_assign, o_pick, a_pick, o_alloc, a_alloc, o_box, a_box, o_build, a_build, o_buildSlice, a_buildSlice, o_load, a_load, o_store, a_store, o_nilCheck, a_nilCheck, o_binOp, a_binOp, o_unOp, a_unOp, o_convert, a_convert, o_makeFunc, a_makeFunc, o_makeMap, a_makeMap, o_makeSlice, a_makeSlice, o_slice, a_slice, o_fieldAddr, a_fieldAddr, o_field, a_field, o_indexAddr, a_indexAddr, o_index, a_index, o_lookup, a_lookup, o_mapUpdate, a_mapUpdate, o_extract, a_extract, o_bi, a_builtin, box_agg, box_uN, box_iv, box_int, box_bool, box_ptr, box_slice, box_map, box_func, box_string, gO_some, gIf_true, gIf_false, gG_tt, gG_tf, gG_ft, gG_ff, gG_undef, b1_some, b2_some, b3_some, bl_some, vA_some, hA_some, pickV_bool, updO_some, updO_none, evList_nil, evList_cons, evParts_nil, evParts_cons, evOpt_none', evOpt_some', e_ret, f_nil, gF_some, res_nil', res_tmp', res_cell', one1, one0, one2, one3, ev_tmp, ev_func, ev_u, ev_iv, ev_int, ev_bool, ev_nil, ev_nilSlice, ev_nilMap, ev_nilFunc, ev_string, upd_at, rhoL_at, k_top, x_top, List.getD_cons_zero, List.getD_cons_succ, List.getD_nil, reduceIte, Nat.reduceEqDiff, cond_true, cond_false, Bool.not_true, Bool.not_false, if_true, if_false, Nat.reduceEqDiff, un_not, reduceCtorEq, decide_true, decide_false, List.append_nil, List.nil_append, List.cons_append, fa56_1, ia49, ld48, fa56_0, ld37, ldA29, fa56_2, ld32, fa56_4, fa61_0, ld58, al64, fa64_2, ld3, fa56_3, ld34, fa64_0, ld4, fa61_1, fa64_1, al43, ldA43, ia32, fa45_2, fa45_4, fa45_5, al76, ld22, ld76, fa54_2, fa88_0, ld86, ia86, fa120_1, ld117, fa120_0, ld70, al22, ld5, box_u]
  have hk0 : Kp A (A.push (.cells false 0 1 [] (T.ofList [u v]))) := (Kp.refl hw).push _
  refine gC_call (in_spec hk0.wf (hs.kp hw hk0) ?_)
  simp [S37_0, S37_1, S37_2, S37_3, S37_4, S37_5, S37_6, S37_7, S37_8, S37_9, S37_10, S37_11, S37_12, S37_13, S37_14, S37_15, S37_16, S37_17, S37_18, S37_19, S37_20, S37_21, S37_22, S37_23, S37_24, S37_25, S37_26, S37, r_skip, r_ops, r_draw, r_seq, r_blk, r_exit, r_ret, r_cond, k_seq, k_blk, x_seq, x_ret, x_exit, o_nil, o_on, o_never, o_call, o_move, a_move, o_assign, a_assign, o_pick, a_pick, o_alloc, a_alloc, o_box, a_box, o_build, a_build, o_buildSlice, a_buildSlice, o_load, a_load, o_store, a_store, o_nilCheck, a_nilCheck, o_binOp, a_binOp, o_unOp, a_unOp, o_convert, a_convert, o_makeFunc, a_makeFunc, o_makeMap, a_makeMap, o_makeSlice, a_makeSlice, o_slice, a_slice, o_fieldAddr, a_fieldAddr, o_field, a_field, o_indexAddr, a_indexAddr, o_index, a_index, o_lookup, a_lookup, o_mapUpdate, a_mapUpdate, o_extract, a_extract, o_bi, a_builtin, box_agg, box_uN, box_iv, box_int, box_bool, box_ptr, box_slice, box_map, box_func, box_string, gO_some, gIf_true, gIf_false, gG_tt, gG_tf, gG_ft, gG_ff, gG_undef, b1_some, b2_some, b3_some, bl_some, vA_some, hA_some, pickV_bool, updO_some, updO_none, evList_nil, evList_cons, evParts_nil, evParts_cons, evOpt_none', evOpt_some', e_ret, f_nil, gF_some, res_nil', res_tmp', res_cell', one1, one0, one2, one3, ev_tmp, ev_func, ev_u, ev_iv, ev_int, ev_bool, ev_nil, ev_nilSlice, ev_nilMap, ev_nilFunc, ev_string, upd_at, rhoL_at, k_top, x_top, List.getD_cons_zero, List.getD_cons_succ, List.getD_nil, reduceIte, Nat.reduceEqDiff, cond_true, cond_false, Bool.not_true, Bool.not_false, if_true, if_false, Nat.reduceEqDiff, un_not, reduceCtorEq, decide_true, decide_false, List.append_nil, List.nil_append, List.cons_append, fa56_1, ia49, ld48, fa56_0, ld37, ldA29, fa56_2, ld32, fa56_4, fa61_0, ld58, al64, fa64_2, ld3, fa56_3, ld34, fa64_0, ld4, fa61_1, fa64_1, al43, ldA43, ia32, fa45_2, fa45_4, fa45_5, al76, ld22, ld76, fa54_2, fa88_0, ld86, ia86, fa120_1, ld117, fa120_0, ld70, al22, ld5, ho, hn]
  have hbx : (A.push (.cells false 0 1 [] (T.ofList [u v]))).cell A.next 0 = some (u v) := cell_box rfl
  refine r_loop (fun m ds ρ B => ∃ t, m = 8 - t ∧ t ≤ 8 ∧ ds = [] ∧ ρ 0 = ptr i 0 ∧ ρ 1 = u off ∧ ρ 7 = .func (.func 51) #[] #[ptr A.next 0] ∧ ρ 14 = iv (t : Int) ∧
    KpX j A B ∧ SegAt B i j n (stB b off v t) ∧ B.cell A.next 0 = some (u v)) (m := 8) ⟨0, rfl, by omega, rfl, rfl, rfl, rfl, rfl, hk0.toX, ?_, hbx⟩ ?_
  · have : stB b off v 0 = b := by funext k; unfold stB; rw [if_neg (by omega)]
    rw [this]; exact hs.kp hw hk0
  rintro m ds ρ B ⟨t, rfl, ht, rfl, h0, h1, h7, h14, hkB, hsB, hbB⟩
  by_cases hlt : t < 8
  · have hlt' : (t : Int) < 8 := by omega
    simp [r_skip, r_ops, r_draw, r_seq, r_blk, r_exit, r_ret, r_cond, k_seq, k_blk, x_seq, x_ret, x_exit, o_nil, o_on, o_never, o_call, o_move, a_move, o_assign, a_assign, o_pick, a_pick, o_alloc, a_alloc, o_box, a_box, o_build, a_build, o_buildSlice, a_buildSlice, o_load, a_load, o_store, a_store, o_nilCheck, a_nilCheck, o_binOp, a_binOp, o_unOp, a_unOp, o_convert, a_convert, o_makeFunc, a_makeFunc, o_makeMap, a_makeMap, o_makeSlice, a_makeSlice, o_slice, a_slice, o_fieldAddr, a_fieldAddr, o_field, a_field, o_indexAddr, a_indexAddr, o_index, a_index, o_lookup, a_lookup, o_mapUpdate, a_mapUpdate, o_extract, a_extract, o_bi, a_builtin, box_agg, box_uN, box_iv, box_int, box_bool, box_ptr, box_slice, box_map, box_func, box_string, gO_some, gIf_true, gIf_false, gG_tt, gG_tf, gG_ft, gG_ff, gG_undef, b1_some, b2_some, b3_some, bl_some, vA_some, hA_some, pickV_bool, updO_some, updO_none, evList_nil, evList_cons, evParts_nil, evParts_cons, evOpt_none', evOpt_some', e_ret, f_nil, gF_some, res_nil', res_tmp', res_cell', one1, one0, one2, one3, ev_tmp, ev_func, ev_u, ev_iv, ev_int, ev_bool, ev_nil, ev_nilSlice, ev_nilMap, ev_nilFunc, ev_string, upd_at, rhoL_at, k_top, x_top, List.getD_cons_zero, List.getD_cons_succ, List.getD_nil, reduceIte, Nat.reduceEqDiff, cond_true, cond_false, Bool.not_true, Bool.not_false, if_true, if_false, Nat.reduceEqDiff, un_not, reduceCtorEq, decide_true, decide_false, List.append_nil, List.nil_append, List.cons_append, h0, h1, h7, h14, bi_lss, hlt']
    simp [r_skip, r_ops, r_draw, r_seq, r_blk, r_exit, r_ret, r_cond, k_seq, k_blk, x_seq, x_ret, x_exit, o_nil, o_on, o_never, o_call, o_move, a_move, o_assign, a_assign, o_pick, a_pick, o_alloc, a_alloc, o_box, a_box, o_build, a_build, o_buildSlice, a_buildSlice, o_load, a_load, o_store, a_store, o_nilCheck, a_nilCheck, o_binOp, a_binOp, o_unOp, a_unOp, o_convert, a_convert, o_makeFunc, a_makeFunc, o_makeMap, a_makeMap, o_makeSlice, a_makeSlice, o_slice, a_slice, o_fieldAddr, a_fieldAddr, o_field, a_field, o_indexAddr, a_indexAddr, o_index, a_index, o_lookup, a_lookup, o_mapUpdate, a_mapUpdate, o_extract, a_extract, o_bi, a_builtin, box_agg, box_uN, box_iv, box_int, box_bool, box_ptr, box_slice, box_map, box_func, box_string, gO_some, gIf_true, gIf_false, gG_tt, gG_tf, gG_ft, gG_ff, gG_undef, b1_some, b2_some, b3_some, bl_some, vA_some, hA_some, pickV_bool, updO_some, updO_none, evList_nil, evList_cons, evParts_nil, evParts_cons, evOpt_none', evOpt_some', e_ret, f_nil, gF_some, res_nil', res_tmp', res_cell', one1, one0, one2, one3, ev_tmp, ev_func, ev_u, ev_iv, ev_int, ev_bool, ev_nil, ev_nilSlice, ev_nilMap, ev_nilFunc, ev_string, upd_at, rhoL_at, k_top, x_top, List.getD_cons_zero, List.getD_cons_succ, List.getD_nil, reduceIte, Nat.reduceEqDiff, cond_true, cond_false, Bool.not_true, Bool.not_false, if_true, if_false, Nat.reduceEqDiff, un_not, reduceCtorEq, decide_true, decide_false, List.append_nil, List.nil_append, List.cons_append, r0_move, r1_move, r2_move, r4_move, r0_assign, r1_assign, r2_assign, r4_assign, r0_pick, r1_pick, r2_pick, r4_pick, r0_alloc, r1_alloc, r2_alloc, r4_alloc, r0_box, r1_box, r2_box, r4_box, r0_build, r1_build, r2_build, r4_build, r0_buildSlice, r1_buildSlice, r2_buildSlice, r4_buildSlice, r0_load, r1_load, r2_load, r4_load, r0_store, r1_store, r2_store, r4_store, r0_nilCheck, r1_nilCheck, r2_nilCheck, r4_nilCheck, r0_binOp, r1_binOp, r2_binOp, r4_binOp, r0_unOp, r1_unOp, r2_unOp, r4_unOp, r0_convert, r1_convert, r2_convert, r4_convert, r0_makeFunc, r1_makeFunc, r2_makeFunc, r4_makeFunc, r0_makeMap, r1_makeMap, r2_makeMap, r4_makeMap, r0_makeSlice, r1_makeSlice, r2_makeSlice, r4_makeSlice, r0_slice, r1_slice, r2_slice, r4_slice, r0_fieldAddr, r1_fieldAddr, r2_fieldAddr, r4_fieldAddr, r0_field, r1_field, r2_field, r4_field, r0_indexAddr, r1_indexAddr, r2_indexAddr, r4_indexAddr, r0_index, r1_index, r2_index, r4_index, r0_lookup, r1_lookup, r2_lookup, r4_lookup, r0_mapUpdate, r1_mapUpdate, r2_mapUpdate, r4_mapUpdate, r0_extract, r1_extract, r2_extract, r4_extract, r0_bi, r1_bi, r2_bi, r4_bi, rr_nil, rr_on, rr_5, rr_3, rr_4c, ag_nil, ag_cons, gR_some, gR5_some, gRG_tt, gRG_tf, gRG_ft, gRG_ff, true_and, and_true, fa56_1, ia49, ld48, fa56_0, ld37, ldA29, fa56_2, ld32, fa56_4, fa61_0, ld58, al64, fa64_2, ld3, fa56_3, ld34, fa64_0, ld4, fa61_1, fa64_1, al43, ldA43, ia32, fa45_2, fa45_4, fa45_5, al76, ld22, ld76, fa54_2, fa88_0, ld86, ia86, fa120_1, ld117, fa120_0, ld70, al22, ld5, h0, h1, h7, h14, aNilCheck, hsB.hdr, cv3_22 (n := t) (by omega), bu_add]
    have hwB := hkB.low.wf
    refine gRQ_fn (store1_spec hwB hbB hlt ⟨fun _ _ => rfl, ?_⟩)
    have hmod : (off + t) % 18446744073709551616 = off + t := Nat.mod_eq_of_lt (by have := hs.big; omega)
    have hown : B.own j (off + t) := by
      obtain ⟨z, c, e⟩ := hsB.row
      exact ⟨1, n, z, c, e, by omega⟩
    simp [r_skip, r_ops, r_draw, r_seq, r_blk, r_exit, r_ret, r_cond, k_seq, k_blk, x_seq, x_ret, x_exit, o_nil, o_on, o_never, o_call, o_move, a_move, o_assign, a_assign, o_pick, a_pick, o_alloc, a_alloc, o_box, a_box, o_build, a_build, o_buildSlice, a_buildSlice, o_load, a_load, o_store, a_store, o_nilCheck, a_nilCheck, o_binOp, a_binOp, o_unOp, a_unOp, o_convert, a_convert, o_makeFunc, a_makeFunc, o_makeMap, a_makeMap, o_makeSlice, a_makeSlice, o_slice, a_slice, o_fieldAddr, a_fieldAddr, o_field, a_field, o_indexAddr, a_indexAddr, o_index, a_index, o_lookup, a_lookup, o_mapUpdate, a_mapUpdate, o_extract, a_extract, o_bi, a_builtin, box_agg, box_uN, box_iv, box_int, box_bool, box_ptr, box_slice, box_map, box_func, box_string, gO_some, gIf_true, gIf_false, gG_tt, gG_tf, gG_ft, gG_ff, gG_undef, b1_some, b2_some, b3_some, bl_some, vA_some, hA_some, pickV_bool, updO_some, updO_none, evList_nil, evList_cons, evParts_nil, evParts_cons, evOpt_none', evOpt_some', e_ret, f_nil, gF_some, res_nil', res_tmp', res_cell', one1, one0, one2, one3, ev_tmp, ev_func, ev_u, ev_iv, ev_int, ev_bool, ev_nil, ev_nilSlice, ev_nilMap, ev_nilFunc, ev_string, upd_at, rhoL_at, k_top, x_top, List.getD_cons_zero, List.getD_cons_succ, List.getD_nil, reduceIte, Nat.reduceEqDiff, cond_true, cond_false, Bool.not_true, Bool.not_false, if_true, if_false, Nat.reduceEqDiff, un_not, reduceCtorEq, decide_true, decide_false, List.append_nil, List.nil_append, List.cons_append, r0_move, r1_move, r2_move, r4_move, r0_assign, r1_assign, r2_assign, r4_assign, r0_pick, r1_pick, r2_pick, r4_pick, r0_alloc, r1_alloc, r2_alloc, r4_alloc, r0_box, r1_box, r2_box, r4_box, r0_build, r1_build, r2_build, r4_build, r0_buildSlice, r1_buildSlice, r2_buildSlice, r4_buildSlice, r0_load, r1_load, r2_load, r4_load, r0_store, r1_store, r2_store, r4_store, r0_nilCheck, r1_nilCheck, r2_nilCheck, r4_nilCheck, r0_binOp, r1_binOp, r2_binOp, r4_binOp, r0_unOp, r1_unOp, r2_unOp, r4_unOp, r0_convert, r1_convert, r2_convert, r4_convert, r0_makeFunc, r1_makeFunc, r2_makeFunc, r4_makeFunc, r0_makeMap, r1_makeMap, r2_makeMap, r4_makeMap, r0_makeSlice, r1_makeSlice, r2_makeSlice, r4_makeSlice, r0_slice, r1_slice, r2_slice, r4_slice, r0_fieldAddr, r1_fieldAddr, r2_fieldAddr, r4_fieldAddr, r0_field, r1_field, r2_field, r4_field, r0_indexAddr, r1_indexAddr, r2_indexAddr, r4_indexAddr, r0_index, r1_index, r2_index, r4_index, r0_lookup, r1_lookup, r2_lookup, r4_lookup, r0_mapUpdate, r1_mapUpdate, r2_mapUpdate, r4_mapUpdate, r0_extract, r1_extract, r2_extract, r4_extract, r0_bi, r1_bi, r2_bi, r4_bi, rr_nil, rr_on, rr_5, rr_3, rr_4c, ag_nil, ag_cons, gR_some, gR5_some, gRG_tt, gRG_tf, gRG_ft, gRG_ff, true_and, and_true, fa56_1, ia49, ld48, fa56_0, ld37, ldA29, fa56_2, ld32, fa56_4, fa61_0, ld58, al64, fa64_2, ld3, fa56_3, ld34, fa64_0, ld4, fa61_1, fa64_1, al43, ldA43, ia32, fa45_2, fa45_4, fa45_5, al76, ld22, ld76, fa54_2, fa88_0, ld86, ia86, fa120_1, ld117, fa120_0, ld70, al22, ld5, hmod, iau86 (show off + t < n by omega), h14, bi_add (a := (t : Int)) (b := 1) (by omega) (by omega), st5 (v := u8 (v / 256 ^ t % 256)) hown rfl rfl]
    refine ⟨8 - (t + 1), by omega, t + 1, rfl, by omega, h0, h1, h7, rfl, ?_, ?_, ?_⟩
    · exact hkB.trans (KpX.put hwB hown)
    · have e : stB b off v (t + 1) = fun q => if q = off + t then v / 256 ^ t % 256 else stB b off v t q := by
        funext q
        unfold stB
        by_cases e1 : q = off + t
        · subst e1; rw [if_pos (by omega), if_pos rfl]; congr 2; congr 1; omega
        · rw [if_neg e1]
          by_cases e2 : off ≤ q ∧ q < off + t
          · rw [if_pos e2, if_pos (by omega)]
          · rw [if_neg e2, if_neg (by omega)]
      rw [e]
      exact hsB.put hwB (by omega) (Nat.mod_lt _ (by omega))
    · rw [AHeap.cell_put hown, if_neg (fun e => ?_)]
      · exact hbB
      · have := hw.lt (i := j) (o := _) hs.row.choose_spec.choose_spec; omega
  · have hlt' : ¬ (t : Int) < 8 := by omega
    have e8 : t = 8 := by omega
    subst e8
    simp [r_skip, r_ops, r_draw, r_seq, r_blk, r_exit, r_ret, r_cond, k_seq, k_blk, x_seq, x_ret, x_exit, o_nil, o_on, o_never, o_call, o_move, a_move, o_assign, a_assign, o_pick, a_pick, o_alloc, a_alloc, o_box, a_box, o_build, a_build, o_buildSlice, a_buildSlice, o_load, a_load, o_store, a_store, o_nilCheck, a_nilCheck, o_binOp, a_binOp, o_unOp, a_unOp, o_convert, a_convert, o_makeFunc, a_makeFunc, o_makeMap, a_makeMap, o_makeSlice, a_makeSlice, o_slice, a_slice, o_fieldAddr, a_fieldAddr, o_field, a_field, o_indexAddr, a_indexAddr, o_index, a_index, o_lookup, a_lookup, o_mapUpdate, a_mapUpdate, o_extract, a_extract, o_bi, a_builtin, box_agg, box_uN, box_iv, box_int, box_bool, box_ptr, box_slice, box_map, box_func, box_string, gO_some, gIf_true, gIf_false, gG_tt, gG_tf, gG_ft, gG_ff, gG_undef, b1_some, b2_some, b3_some, bl_some, vA_some, hA_some, pickV_bool, updO_some, updO_none, evList_nil, evList_cons, evParts_nil, evParts_cons, evOpt_none', evOpt_some', e_ret, f_nil, gF_some, res_nil', res_tmp', res_cell', one1, one0, one2, one3, ev_tmp, ev_func, ev_u, ev_iv, ev_int, ev_bool, ev_nil, ev_nilSlice, ev_nilMap, ev_nilFunc, ev_string, upd_at, rhoL_at, k_top, x_top, List.getD_cons_zero, List.getD_cons_succ, List.getD_nil, reduceIte, Nat.reduceEqDiff, cond_true, cond_false, Bool.not_true, Bool.not_false, if_true, if_false, Nat.reduceEqDiff, un_not, reduceCtorEq, decide_true, decide_false, List.append_nil, List.nil_append, List.cons_append, h0, h1, h7, h14, bi_lss]
    exact h B hkB hsB
end Go.Abs

namespace Go.Abs
open Go Go.Proofs
set_option linter.unusedSimpArgs false
set_option linter.unusedVariables false
variable {X0 : Ext0} {K : Value → AHeap → Prop} {A : AHeap}

theorem wYld_mono {P : Program} {E : Env P} {X0 : Ext0} {l : Nat} {args : List Value} {A : AHeap} {k k' : Value → AHeap → Prop} (hk : ∀ v A, k v A → k' v A) (h : wYld E X0 l args A k) : wYld E X0 l args A k' := by
  obtain ⟨v, A', h1, h2, h⟩ := h; exact ⟨v, A', h1, h2, hk _ _ h⟩
theorem natOf_u {n : Nat} : natOf (u n) = some n := natOf_int
theorem bound_u {n d : Nat} : boundOf (some (u n)) d = some n := natOf_u
theorem bound_none {d : Nat} : boundOf none d = some d := rfl
/-- A slice of a slice. -/
theorem slS_eq {P : Program} {E : Env P} {t s : Nat} (h : iaSl E t = some s) {A : AHeap} {i off len c es n : Nat} {ro : Bool} {z : List Value} {cc : T Value} (ho : A.obj i = some (.cells ro es n z cc)) (hes : es = 0 ∨ es = s)
    {lo hi : Option Value} {l hh : Nat} (hl : boundOf lo 0 = some l) (hhi : boundOf hi len = some hh) (h1 : l ≤ hh) (h2 : hh ≤ c) (h3 : off + l * s ≤ n) :
    aSlice E t (.slice (some ⟨i, off, none⟩) len c) lo hi none A = some (.slice (some ⟨i, off + l * s, none⟩) (hh - l) (c - l)) := by
  unfold iaSl at h
  split at h
  · rename_i elem hu
    obtain ⟨info, hi', hs⟩ := Option.map_eq_some_iff.1 h
    unfold aSlice
    simp only [hl, hu, hhi, hi', ho, bound_none, Option.isSome_none, Bool.false_and, if_false, Bool.false_eq_true, hs]
    rw [if_pos]
    simp only [Bool.and_eq_true, Bool.or_eq_true, decide_eq_true_eq]
    exact ⟨⟨⟨⟨h1, h2⟩, Nat.le_refl _⟩, hes⟩, h3⟩
  · cases h

theorem backward_spec {v : Value} (hv : v.cells = #[v]) (hw : WF A) (h : K (.func (.func 103) #[] #[ptr A.next 0]) (A.push (.cells false 0 1 [] (T.ofList [v])))) : wCall E0 X0 81 [v] A K := by
  refine wCall_R fn81 s81 n81 r81 hw ?_
  simp [S81_0, S81_1, S81_2, S81_3, S81, r_skip, r_ops, r_draw, r_seq, r_blk, r_exit, r_ret, r_cond, k_seq, k_blk, x_seq, x_ret, x_exit, o_nil, o_on, o_never, o_call, o_move, a_move, o_assign, a_assign, o_pick, a_pick, o_alloc, a_alloc, o_box, a_box, o_build, a_build, o_buildSlice, a_buildSlice, o_load, a_load, o_store, a_store, o_nilCheck, a_nilCheck, o_binOp, a_binOp, o_unOp, a_unOp, o_convert, a_convert, o_makeFunc, a_makeFunc, o_makeMap, a_makeMap, o_makeSlice, a_makeSlice, o_slice, a_slice, o_fieldAddr, a_fieldAddr, o_field, a_field, o_indexAddr, a_indexAddr, o_index, a_index, o_lookup, a_lookup, o_mapUpdate, a_mapUpdate, o_extract, a_extract, o_bi, a_builtin, box_agg, box_uN, box_iv, box_int, box_bool, box_ptr, box_slice, box_map, box_func, box_string, gO_some, gIf_true, gIf_false, gG_tt, gG_tf, gG_ft, gG_ff, gG_undef, b1_some, b2_some, b3_some, bl_some, vA_some, hA_some, pickV_bool, updO_some, updO_none, evList_nil, evList_cons, evParts_nil, evParts_cons, evOpt_none', evOpt_some', e_ret, f_nil, gF_some, res_nil', res_tmp', res_cell', one1, one0, one2, one3, ev_tmp, ev_func, ev_u, ev_iv, ev_int, ev_bool, ev_nil, ev_nilSlice, ev_nilMap, ev_nilFunc, ev_string, upd_at, rhoL_at, k_top, x_top, List.getD_cons_zero, List.getD_cons_succ, List.getD_nil, reduceIte, Nat.reduceEqDiff, cond_true, cond_false, Bool.not_true, Bool.not_false, if_true, if_false, Nat.reduceEqDiff, un_not, reduceCtorEq, decide_true, decide_false, List.append_nil, List.nil_append, List.cons_append, box1 hv]
  exact h

theorem bw_spec {L bx j off len cap : Nat} {bs : Nat → Nat} (hlen : len < 9223372036854775808) (I : Nat → AHeap → Prop)
    (hI : ∀ k A, k ≤ len → I k A → WF A ∧ A.cell bx 0 = some (.slice (some ⟨j, off, none⟩) len cap) ∧ ∀ t, t < len → A.cell j (off + t) = some (u8 (bs t)))
    (step : ∀ k A, k < len → I (k + 1) A → wYld E0 X0 L [iv (k : Int), u8 (bs k)] A (fun v A' => v = .bool true ∧ I k A'))
    (h0 : I len A) (fin : ∀ A', I 0 A' → K (.tuple #[]) A') : wCall E0 X0 103 [.func (.yield L) #[] #[], ptr bx 0] A K := by
  obtain ⟨hw, hb, hc⟩ := hI len A (Nat.le_refl _) h0
  refine wCall_R fn103 s103 n103 r103 hw ?_
  simp [S103_0, S103_1, S103_2, S103_3, S103_4, S103_5, S103_6, S103_7, S103_8, S103_9, S103_10, S103_11, S103_12, S103_13, S103, r_skip, r_ops, r_draw, r_seq, r_blk, r_exit, r_ret, r_cond, k_seq, k_blk, x_seq, x_ret, x_exit, o_nil, o_on, o_never, o_call, o_move, a_move, o_assign, a_assign, o_pick, a_pick, o_alloc, a_alloc, o_box, a_box, o_build, a_build, o_buildSlice, a_buildSlice, o_load, a_load, o_store, a_store, o_nilCheck, a_nilCheck, o_binOp, a_binOp, o_unOp, a_unOp, o_convert, a_convert, o_makeFunc, a_makeFunc, o_makeMap, a_makeMap, o_makeSlice, a_makeSlice, o_slice, a_slice, o_fieldAddr, a_fieldAddr, o_field, a_field, o_indexAddr, a_indexAddr, o_index, a_index, o_lookup, a_lookup, o_mapUpdate, a_mapUpdate, o_extract, a_extract, o_bi, a_builtin, box_agg, box_uN, box_iv, box_int, box_bool, box_ptr, box_slice, box_map, box_func, box_string, gO_some, gIf_true, gIf_false, gG_tt, gG_tf, gG_ft, gG_ff, gG_undef, b1_some, b2_some, b3_some, bl_some, vA_some, hA_some, pickV_bool, updO_some, updO_none, evList_nil, evList_cons, evParts_nil, evParts_cons, evOpt_none', evOpt_some', e_ret, f_nil, gF_some, res_nil', res_tmp', res_cell', one1, one0, one2, one3, ev_tmp, ev_func, ev_u, ev_iv, ev_int, ev_bool, ev_nil, ev_nilSlice, ev_nilMap, ev_nilFunc, ev_string, upd_at, rhoL_at, k_top, x_top, List.getD_cons_zero, List.getD_cons_succ, List.getD_nil, reduceIte, Nat.reduceEqDiff, cond_true, cond_false, Bool.not_true, Bool.not_false, if_true, if_false, Nat.reduceEqDiff, un_not, reduceCtorEq, decide_true, decide_false, List.append_nil, List.nil_append, List.cons_append, fa56_1, ia49, ld48, fa56_0, ld37, ldA29, fa56_2, ld32, fa56_4, fa61_0, ld58, al64, fa64_2, ld3, fa56_3, ld34, fa64_0, ld4, fa61_1, fa64_1, al43, ldA43, ia32, fa45_2, fa45_4, fa45_5, al76, ld22, ld76, fa54_2, fa88_0, ld86, ia86, fa120_1, ld117, fa120_0, ld70, al22, ld5, hb, len86, bi_sub (a := (len : Int)) (b := 1) (by omega) (by omega)]
  refine r_loop (fun m ds ρ B => m ≤ len ∧ ds = [] ∧ ρ 0 = .func (.yield L) #[] #[] ∧ ρ 1 = ptr bx 0 ∧ ρ 3 = iv ((m : Int) - 1) ∧ I m B) (m := len) ⟨Nat.le_refl _, rfl, rfl, rfl, rfl, h0⟩ ?_
  rintro m ds ρ B ⟨hm, rfl, h0, h1, h3, hIB⟩
  obtain ⟨hwB, hbB, hcB⟩ := hI m B hm hIB
  cases m with
  | zero =>
    simp [r_skip, r_ops, r_draw, r_seq, r_blk, r_exit, r_ret, r_cond, k_seq, k_blk, x_seq, x_ret, x_exit, o_nil, o_on, o_never, o_call, o_move, a_move, o_assign, a_assign, o_pick, a_pick, o_alloc, a_alloc, o_box, a_box, o_build, a_build, o_buildSlice, a_buildSlice, o_load, a_load, o_store, a_store, o_nilCheck, a_nilCheck, o_binOp, a_binOp, o_unOp, a_unOp, o_convert, a_convert, o_makeFunc, a_makeFunc, o_makeMap, a_makeMap, o_makeSlice, a_makeSlice, o_slice, a_slice, o_fieldAddr, a_fieldAddr, o_field, a_field, o_indexAddr, a_indexAddr, o_index, a_index, o_lookup, a_lookup, o_mapUpdate, a_mapUpdate, o_extract, a_extract, o_bi, a_builtin, box_agg, box_uN, box_iv, box_int, box_bool, box_ptr, box_slice, box_map, box_func, box_string, gO_some, gIf_true, gIf_false, gG_tt, gG_tf, gG_ft, gG_ff, gG_undef, b1_some, b2_some, b3_some, bl_some, vA_some, hA_some, pickV_bool, updO_some, updO_none, evList_nil, evList_cons, evParts_nil, evParts_cons, evOpt_none', evOpt_some', e_ret, f_nil, gF_some, res_nil', res_tmp', res_cell', one1, one0, one2, one3, ev_tmp, ev_func, ev_u, ev_iv, ev_int, ev_bool, ev_nil, ev_nilSlice, ev_nilMap, ev_nilFunc, ev_string, upd_at, rhoL_at, k_top, x_top, List.getD_cons_zero, List.getD_cons_succ, List.getD_nil, reduceIte, Nat.reduceEqDiff, cond_true, cond_false, Bool.not_true, Bool.not_false, if_true, if_false, Nat.reduceEqDiff, un_not, reduceCtorEq, decide_true, decide_false, List.append_nil, List.nil_append, List.cons_append, h3, bi_geq]
    exact fin B hIB
  | succ k =>
    have e : ((k + 1 : Nat) : Int) - 1 = (k : Int) := by omega
    rw [e] at h3
    simp [r_skip, r_ops, r_draw, r_seq, r_blk, r_exit, r_ret, r_cond, k_seq, k_blk, x_seq, x_ret, x_exit, o_nil, o_on, o_never, o_call, o_move, a_move, o_assign, a_assign, o_pick, a_pick, o_alloc, a_alloc, o_box, a_box, o_build, a_build, o_buildSlice, a_buildSlice, o_load, a_load, o_store, a_store, o_nilCheck, a_nilCheck, o_binOp, a_binOp, o_unOp, a_unOp, o_convert, a_convert, o_makeFunc, a_makeFunc, o_makeMap, a_makeMap, o_makeSlice, a_makeSlice, o_slice, a_slice, o_fieldAddr, a_fieldAddr, o_field, a_field, o_indexAddr, a_indexAddr, o_index, a_index, o_lookup, a_lookup, o_mapUpdate, a_mapUpdate, o_extract, a_extract, o_bi, a_builtin, box_agg, box_uN, box_iv, box_int, box_bool, box_ptr, box_slice, box_map, box_func, box_string, gO_some, gIf_true, gIf_false, gG_tt, gG_tf, gG_ft, gG_ff, gG_undef, b1_some, b2_some, b3_some, bl_some, vA_some, hA_some, pickV_bool, updO_some, updO_none, evList_nil, evList_cons, evParts_nil, evParts_cons, evOpt_none', evOpt_some', e_ret, f_nil, gF_some, res_nil', res_tmp', res_cell', one1, one0, one2, one3, ev_tmp, ev_func, ev_u, ev_iv, ev_int, ev_bool, ev_nil, ev_nilSlice, ev_nilMap, ev_nilFunc, ev_string, upd_at, rhoL_at, k_top, x_top, List.getD_cons_zero, List.getD_cons_succ, List.getD_nil, reduceIte, Nat.reduceEqDiff, cond_true, cond_false, Bool.not_true, Bool.not_false, if_true, if_false, Nat.reduceEqDiff, un_not, reduceCtorEq, decide_true, decide_false, List.append_nil, List.nil_append, List.cons_append, fa56_1, ia49, ld48, fa56_0, ld37, ldA29, fa56_2, ld32, fa56_4, fa61_0, ld58, al64, fa64_2, ld3, fa56_3, ld34, fa64_0, ld4, fa61_1, fa64_1, al43, ldA43, ia32, fa45_2, fa45_4, fa45_5, al76, ld22, ld76, fa54_2, fa88_0, ld86, ia86, fa120_1, ld117, fa120_0, ld70, al22, ld5, h0, h1, h3, bi_geq, hbB, iai86 (show k < len by omega), hcB k (by omega)]
    refine gC_yld (wYld_mono (fun v A' h => ?_) (step k B (by omega) hIB))
    obtain ⟨rfl, hIk⟩ := h
    obtain ⟨hwB, hbB, hcB⟩ := hI k A' (by omega) hIk
    simp [r_skip, r_ops, r_draw, r_seq, r_blk, r_exit, r_ret, r_cond, k_seq, k_blk, x_seq, x_ret, x_exit, o_nil, o_on, o_never, o_call, o_move, a_move, o_assign, a_assign, o_pick, a_pick, o_alloc, a_alloc, o_box, a_box, o_build, a_build, o_buildSlice, a_buildSlice, o_load, a_load, o_store, a_store, o_nilCheck, a_nilCheck, o_binOp, a_binOp, o_unOp, a_unOp, o_convert, a_convert, o_makeFunc, a_makeFunc, o_makeMap, a_makeMap, o_makeSlice, a_makeSlice, o_slice, a_slice, o_fieldAddr, a_fieldAddr, o_field, a_field, o_indexAddr, a_indexAddr, o_index, a_index, o_lookup, a_lookup, o_mapUpdate, a_mapUpdate, o_extract, a_extract, o_bi, a_builtin, box_agg, box_uN, box_iv, box_int, box_bool, box_ptr, box_slice, box_map, box_func, box_string, gO_some, gIf_true, gIf_false, gG_tt, gG_tf, gG_ft, gG_ff, gG_undef, b1_some, b2_some, b3_some, bl_some, vA_some, hA_some, pickV_bool, updO_some, updO_none, evList_nil, evList_cons, evParts_nil, evParts_cons, evOpt_none', evOpt_some', e_ret, f_nil, gF_some, res_nil', res_tmp', res_cell', one1, one0, one2, one3, ev_tmp, ev_func, ev_u, ev_iv, ev_int, ev_bool, ev_nil, ev_nilSlice, ev_nilMap, ev_nilFunc, ev_string, upd_at, rhoL_at, k_top, x_top, List.getD_cons_zero, List.getD_cons_succ, List.getD_nil, reduceIte, Nat.reduceEqDiff, cond_true, cond_false, Bool.not_true, Bool.not_false, if_true, if_false, Nat.reduceEqDiff, un_not, reduceCtorEq, decide_true, decide_false, List.append_nil, List.nil_append, List.cons_append, h3, bi_sub (a := (k : Int)) (b := 1) (by omega) (by omega)]
    exact ⟨k, by omega, by omega, h0, h1, rfl, hIk⟩
end Go.Abs

namespace Go.Abs
open Go Go.Proofs
set_option linter.unusedSimpArgs false
set_option linter.unusedVariables false
variable {X0 : Ext0} {K : Value → AHeap → Prop} {A : AHeap}

theorem AHeap.cell_set {A : AHeap} {i off x : Nat} {o : AObj} (h : i ≠ x) : (A.set x o).cell i off = A.cell i off := by
  unfold AHeap.cell; rw [AHeap.obj_set, if_neg h]
theorem AHeap.own_set {A : AHeap} {i off x : Nat} {o : AObj} (h : i ≠ x) (e : A.own i off) : (A.set x o).own i off := by
  obtain ⟨a, b, c, d, ho, hl⟩ := e
  exact ⟨a, b, c, d, by rw [AHeap.obj_set, if_neg h]; exact ho, hl⟩
theorem Kp.setNew {A B : AHeap} (h : Kp A B) {x : Nat} {o o' : AObj} (hx : A.next ≤ x) (e : B.obj x = some o) : Kp A (B.set x o') :=
  ⟨h.low.trans (h.wf.set' e), fun j hj => by rw [AHeap.obj_set, if_neg (by omega)]; exact h.same j hj⟩
theorem Kp.putNew {A B : AHeap} (h : Kp A B) {x off : Nat} {v : Value} (hx : A.next ≤ x) (e : B.own x off) : Kp A (B.put x off v) :=
  ⟨h.low.trans (B.low_put h.wf e), fun j hj => by rw [AHeap.obj_put_other (by omega)]; exact h.same j hj⟩
theorem jump_none {l : Nat} {r : ALoop} {A : AHeap} : (if (jumpOf .normal).isNone = true then LoopState.ready else .done) = .ready := rfl
/-- The upper bytes of a word, so many. -/
def wdR (b : Nat → Nat) (off : Nat) : Nat → Nat
  | 0 => 0
  | m + 1 => wdR b off m * 256 + b (off + (7 - m))
abbrev word (b : Nat → Nat) (off : Nat) : Nat := wdR b off 8
theorem wdR_lt {b : Nat → Nat} (hb : ∀ k, b k < 256) {off : Nat} : ∀ m, wdR b off m < 256 ^ m
  | 0 => by simp [wdR]
  | m + 1 => by
    have := wdR_lt hb (off := off) m
    have h2 := hb (off + (7 - m))
    show wdR b off m * 256 + b (off + (7 - m)) < 256 ^ m * 256
    omega
theorem bu_shlU {a n t : Nat} (h : n < 64) : aBin E0 .shl t (u a) (u n) = some (u (a * 2 ^ n % 18446744073709551616)) := by
  show (if (n : Int) < 0 then none else some (Value.int .u64 (IntKind.u64.wrap ((a : Int) * 2 ^ (min (n : Int).toNat 64))))) = _
  rw [if_neg (by omega), Int.toNat_natCast, Nat.min_eq_left (by omega), show (a : Int) * 2 ^ n = ((a * 2 ^ n : Nat) : Int) from by simp, wrap_u64]; rfl
theorem cv5_22 {n : Nat} {A : AHeap} (h : n < 256) : aConvert E0 5 22 (u8 n) A = some (u n) := by
  unfold u8
  rw [cvInt (k := .u64) (by kernel_rfl) (by kernel_rfl), wrap_u64, Nat.mod_eq_of_lt (by omega)]; rfl
theorem bu_orB {a c t : Nat} (ha : a < 256 ^ 7) (hc : c < 256) : aBin E0 .or t (u (a * 256)) (u c) = some (u (a * 256 + c)) := by
  rw [bu_or (by omega) (by omega)]
  have := Nat.shiftLeft_add_eq_or_of_lt (i := 8) (b := c) (by omega) a
  rw [Nat.shiftLeft_eq] at this
  rw [← this]
theorem f_mark {P : Program} {E : Env P} {X0 : Ext0} {rs : List ResultVar} {K : Value → AHeap → Prop} {D : Nat} {a : Array Value} {ds : List Deferred} {ρ : Rho} {A : AHeap} :
    wFin E X0 rs K ({ target := .collected D, args := a } :: ds) ρ A = (A.obj D = some .marks ∧ wFin E X0 rs K ds ρ (A.set D .dead)) := rfl
theorem yEnd_n {l : Nat} {K : Value → AHeap → Prop} {ρ : Rho} {A : AHeap} {r : ALoop} (hl : A.obj l = some (.loop r)) (h : K (.bool true) (A.set l (.loop { r with state := .ready, pending := none }))) : wYEnd l K .normal [] ρ A :=
  ⟨rfl, r, hl, h⟩
theorem load_spec {i j n off : Nat} {b : Nat → Nat} (hw : WF A) (hs : SegAt A i j n b) (h8 : n % 8 = 0) (ho : off % 8 = 0) (hn : off < n)
    (h : ∀ A', Kp A A' → K (.tuple #[u (word b off), iv 0]) A') : wCall E0 X0 70 [ptr i 0, u off] A K := by
  refine wCall_R fn70 s70 n70 r70 hw ?_
  simp [S70_0, S70_1, S70_2, S70_3, S70_4, S70_5, S70_6, S70_7, S70_10, S70_11, S70_12, S70_13, S70_14, S70_15, S70_16, S70_17, S70_18, S70_19, S70_20, S70_21, S70, r_skip, r_ops, r_draw, r_seq, r_blk, r_exit, r_ret, r_cond, k_seq, k_blk, x_seq, x_ret, x_exit, o_nil, o_on, o_never, o_call, o_move, a_move, o_assign, a_assign, o_pick, a_pick, o_alloc, a_alloc, o_box, a_box, o_build, a_build, o_buildSlice, a_buildSlice, o_load, a_load, o_store, a_store, o_nilCheck, a_nilCheck, o_binOp, a_binOp, o_unOp, a_unOp, o_convert, a_convert, o_makeFunc, a_makeFunc, o_makeMap, a_makeMap, o_makeSlice, a_makeSlice, o_slice, a_slice, o_fieldAddr, a_fieldAddr, o_field, a_field, o_indexAddr, a_indexAddr, o_index, a_index, o_lookup, a_lookup, o_mapUpdate, a_mapUpdate, o_extract, a_extract, o_bi, a_builtin, box_agg, box_uN, box_iv, box_int, box_bool, box_ptr, box_slice, box_map, box_func, box_string, gO_some, gIf_true, gIf_false, gG_tt, gG_tf, gG_ft, gG_ff, gG_undef, b1_some, b2_some, b3_some, bl_some, vA_some, hA_some, pickV_bool, updO_some, updO_none, evList_nil, evList_cons, evParts_nil, evParts_cons, evOpt_none', evOpt_some', e_ret, f_nil, gF_some, res_nil', res_tmp', res_cell', one1, one0, one2, one3, ev_tmp, ev_func, ev_u, ev_iv, ev_int, ev_bool, ev_nil, ev_nilSlice, ev_nilMap, ev_nilFunc, ev_string, upd_at, rhoL_at, k_top, x_top, List.getD_cons_zero, List.getD_cons_succ, List.getD_nil, reduceIte, Nat.reduceEqDiff, cond_true, cond_false, Bool.not_true, Bool.not_false, if_true, if_false, Nat.reduceEqDiff, un_not, reduceCtorEq, decide_true, decide_false, List.append_nil, List.nil_append, List.cons_append, fa56_1, ia49, ld48, fa56_0, ld37, ldA29, fa56_2, ld32, fa56_4, fa61_0, ld58, al64, fa64_2, ld3, fa56_3, ld34, fa64_0, ld4, fa61_1, fa64_1, al43, ldA43, ia32, fa45_2, fa45_4, fa45_5, al76, ld22, ld76, fa54_2, fa88_0, ld86, ia86, fa120_1, ld117, fa120_0, ld70, al22, ld5]
  refine gC_call (in_spec hw hs ?_)
  have hbig := hs.big
  obtain ⟨z, cc, hrow⟩ := hs.row
  have hmod : (off + 8) % 18446744073709551616 = off + 8 := Nat.mod_eq_of_lt (by omega)
  have hrow' : (A.push (.cells false 0 1 [u 0] .e)).obj j = some (.cells false 1 n z cc) := by rw [AHeap.obj_push, if_neg (by have := hw.lt hrow; omega)]; exact hrow
  have hhdr : (A.push (.cells false 0 1 [u 0] .e)).cell i 0 = some (.slice (some ⟨j, 0, none⟩) n n) := by rw [AHeap.cell_push (AHeap.cell_lt hw hs.hdr)]; exact hs.hdr
  simp [r_skip, r_ops, r_draw, r_seq, r_blk, r_exit, r_ret, r_cond, k_seq, k_blk, x_seq, x_ret, x_exit, o_nil, o_on, o_never, o_call, o_move, a_move, o_assign, a_assign, o_pick, a_pick, o_alloc, a_alloc, o_box, a_box, o_build, a_build, o_buildSlice, a_buildSlice, o_load, a_load, o_store, a_store, o_nilCheck, a_nilCheck, o_binOp, a_binOp, o_unOp, a_unOp, o_convert, a_convert, o_makeFunc, a_makeFunc, o_makeMap, a_makeMap, o_makeSlice, a_makeSlice, o_slice, a_slice, o_fieldAddr, a_fieldAddr, o_field, a_field, o_indexAddr, a_indexAddr, o_index, a_index, o_lookup, a_lookup, o_mapUpdate, a_mapUpdate, o_extract, a_extract, o_bi, a_builtin, box_agg, box_uN, box_iv, box_int, box_bool, box_ptr, box_slice, box_map, box_func, box_string, gO_some, gIf_true, gIf_false, gG_tt, gG_tf, gG_ft, gG_ff, gG_undef, b1_some, b2_some, b3_some, bl_some, vA_some, hA_some, pickV_bool, updO_some, updO_none, evList_nil, evList_cons, evParts_nil, evParts_cons, evOpt_none', evOpt_some', e_ret, f_nil, gF_some, res_nil', res_tmp', res_cell', one1, one0, one2, one3, ev_tmp, ev_func, ev_u, ev_iv, ev_int, ev_bool, ev_nil, ev_nilSlice, ev_nilMap, ev_nilFunc, ev_string, upd_at, rhoL_at, k_top, x_top, List.getD_cons_zero, List.getD_cons_succ, List.getD_nil, reduceIte, Nat.reduceEqDiff, cond_true, cond_false, Bool.not_true, Bool.not_false, if_true, if_false, Nat.reduceEqDiff, un_not, reduceCtorEq, decide_true, decide_false, List.append_nil, List.nil_append, List.cons_append, fa56_1, ia49, ld48, fa56_0, ld37, ldA29, fa56_2, ld32, fa56_4, fa61_0, ld58, al64, fa64_2, ld3, fa56_3, ld34, fa64_0, ld4, fa61_1, fa64_1, al43, ldA43, ia32, fa45_2, fa45_4, fa45_5, al76, ld22, ld76, fa54_2, fa88_0, ld86, ia86, fa120_1, ld117, fa120_0, ld70, al22, ld5, ho, hn, aNilCheck, hs.hdr, hhdr, bu_add, hmod]
  rw [slS_eq (s := 1) (by kernel_rfl) hrow' (.inr rfl) bound_u bound_u (by omega) (by omega) (by omega)]
  simp [r_skip, r_ops, r_draw, r_seq, r_blk, r_exit, r_ret, r_cond, k_seq, k_blk, x_seq, x_ret, x_exit, o_nil, o_on, o_never, o_call, o_move, a_move, o_assign, a_assign, o_pick, a_pick, o_alloc, a_alloc, o_box, a_box, o_build, a_build, o_buildSlice, a_buildSlice, o_load, a_load, o_store, a_store, o_nilCheck, a_nilCheck, o_binOp, a_binOp, o_unOp, a_unOp, o_convert, a_convert, o_makeFunc, a_makeFunc, o_makeMap, a_makeMap, o_makeSlice, a_makeSlice, o_slice, a_slice, o_fieldAddr, a_fieldAddr, o_field, a_field, o_indexAddr, a_indexAddr, o_index, a_index, o_lookup, a_lookup, o_mapUpdate, a_mapUpdate, o_extract, a_extract, o_bi, a_builtin, box_agg, box_uN, box_iv, box_int, box_bool, box_ptr, box_slice, box_map, box_func, box_string, gO_some, gIf_true, gIf_false, gG_tt, gG_tf, gG_ft, gG_ff, gG_undef, b1_some, b2_some, b3_some, bl_some, vA_some, hA_some, pickV_bool, updO_some, updO_none, evList_nil, evList_cons, evParts_nil, evParts_cons, evOpt_none', evOpt_some', e_ret, f_nil, gF_some, res_nil', res_tmp', res_cell', one1, one0, one2, one3, ev_tmp, ev_func, ev_u, ev_iv, ev_int, ev_bool, ev_nil, ev_nilSlice, ev_nilMap, ev_nilFunc, ev_string, upd_at, rhoL_at, k_top, x_top, List.getD_cons_zero, List.getD_cons_succ, List.getD_nil, reduceIte, Nat.reduceEqDiff, cond_true, cond_false, Bool.not_true, Bool.not_false, if_true, if_false, Nat.reduceEqDiff, un_not, reduceCtorEq, decide_true, decide_false, List.append_nil, List.nil_append, List.cons_append, fa56_1, ia49, ld48, fa56_0, ld37, ldA29, fa56_2, ld32, fa56_4, fa61_0, ld58, al64, fa64_2, ld3, fa56_3, ld34, fa64_0, ld4, fa61_1, fa64_1, al43, ldA43, ia32, fa45_2, fa45_4, fa45_5, al76, ld22, ld76, fa54_2, fa88_0, ld86, ia86, fa120_1, ld117, fa120_0, ld70, al22, ld5]
  refine gC_call (backward_spec rfl ((Kp.refl hw).push _).wf ?_)
  simp [r_skip, r_ops, r_draw, r_seq, r_blk, r_exit, r_ret, r_cond, k_seq, k_blk, x_seq, x_ret, x_exit, o_nil, o_on, o_never, o_call, o_move, a_move, o_assign, a_assign, o_pick, a_pick, o_alloc, a_alloc, o_box, a_box, o_build, a_build, o_buildSlice, a_buildSlice, o_load, a_load, o_store, a_store, o_nilCheck, a_nilCheck, o_binOp, a_binOp, o_unOp, a_unOp, o_convert, a_convert, o_makeFunc, a_makeFunc, o_makeMap, a_makeMap, o_makeSlice, a_makeSlice, o_slice, a_slice, o_fieldAddr, a_fieldAddr, o_field, a_field, o_indexAddr, a_indexAddr, o_index, a_index, o_lookup, a_lookup, o_mapUpdate, a_mapUpdate, o_extract, a_extract, o_bi, a_builtin, box_agg, box_uN, box_iv, box_int, box_bool, box_ptr, box_slice, box_map, box_func, box_string, gO_some, gIf_true, gIf_false, gG_tt, gG_tf, gG_ft, gG_ff, gG_undef, b1_some, b2_some, b3_some, bl_some, vA_some, hA_some, pickV_bool, updO_some, updO_none, evList_nil, evList_cons, evParts_nil, evParts_cons, evOpt_none', evOpt_some', e_ret, f_nil, gF_some, res_nil', res_tmp', res_cell', one1, one0, one2, one3, ev_tmp, ev_func, ev_u, ev_iv, ev_int, ev_bool, ev_nil, ev_nilSlice, ev_nilMap, ev_nilFunc, ev_string, upd_at, rhoL_at, k_top, x_top, List.getD_cons_zero, List.getD_cons_succ, List.getD_nil, reduceIte, Nat.reduceEqDiff, cond_true, cond_false, Bool.not_true, Bool.not_false, if_true, if_false, Nat.reduceEqDiff, un_not, reduceCtorEq, decide_true, decide_false, List.append_nil, List.nil_append, List.cons_append, fa56_1, ia49, ld48, fa56_0, ld37, ldA29, fa56_2, ld32, fa56_4, fa61_0, ld58, al64, fa64_2, ld3, fa56_3, ld34, fa64_0, ld4, fa61_1, fa64_1, al43, ldA43, ia32, fa45_2, fa45_4, fa45_5, al76, ld22, ld76, fa54_2, fa88_0, ld86, ia86, fa120_1, ld117, fa120_0, ld70, al22, ld5]
  obtain ⟨A2, hA2⟩ : ∃ A2, A2 = (A.push (.cells false 0 1 [u 0] .e)).push (.cells false 0 1 [] (T.ofList [Value.slice (some ⟨j, off, none⟩) 8 (n - off)])) := ⟨_, rfl⟩
  rw [← hA2]
  have hk2 : Kp A A2 := by rw [hA2]; exact ((Kp.refl hw).push _).push _
  have hn2 : A2.next = A.next + 2 := by rw [hA2]; rfl
  have hacc : A2.cell A.next 0 = some (u 0) := by rw [hA2, AHeap.cell_push (by simp), AHeap.cell_new]; rfl
  have hown : A2.own A.next 0 := by rw [hA2]; exact AHeap.own_push ((Kp.refl hw).push _).wf (AHeap.own_new (by omega))
  have hsl : A2.cell (A.next + 1) 0 = some (.slice (some ⟨j, off, none⟩) 8 (n - off)) := by rw [hA2]; exact cell_box rfl
  clear hA2
  refine r_range (g := 103) (first := #[]) (cap := #[ptr (A.next + 1) 0]) rfl fun tm e => ?_
  have e6 : rhoOf tm 6 = ptr A.next 0 := by rw [e]; rfl
  have hkS : Kp A (startA A2 ⟨70, none, 30⟩ tm #[22, 23] S70_8 S70_9) := (hk2.push _).push _
  refine bw_spec (len := 8) (j := j) (off := off) (cap := n - off) (bs := fun t => b (off + t)) (by omega)
    (fun k B => Kp A B ∧ A.next + 4 ≤ B.next ∧ B.cell (A.next + 1) 0 = some (.slice (some ⟨j, off, none⟩) 8 (n - off)) ∧ B.cell A.next 0 = some (u (wdR b off (8 - k))) ∧ B.own A.next 0 ∧
      B.obj (A2.next + 1) = some (.loop ⟨.ready, none, 70, 30, tm, #[22, 23], S70_8, S70_9, A2.next⟩) ∧ B.obj A2.next = some .marks) ?_ ?_ ?_ ?_
  · rintro k B hk ⟨h1, h2, h3, h4, h5, h6, h7⟩
    exact ⟨h1.wf, h3, fun t ht => (hs.kp hw h1).val _ (by omega)⟩
  · rintro k B hk ⟨h1, h2, h3, h4, h5, h6, h7⟩
    refine wYld_R h6 rfl (by decide) S70_8_s S70_9_s ?_ h1.wf
    have hcB : (B.set (A2.next + 1) (.loop ⟨.busy, none, 70, 30, tm, #[22, 23], S70_8, S70_9, A2.next⟩)).cell A.next 0 = some (u (wdR b off (8 - (k + 1)))) := by rw [AHeap.cell_set (by omega)]; exact h4
    have hoB : (B.set (A2.next + 1) (.loop ⟨.busy, none, 70, 30, tm, #[22, 23], S70_8, S70_9, A2.next⟩)).own A.next 0 := AHeap.own_set (by omega) h5
    simp [S70_0, S70_1, S70_2, S70_3, S70_4, S70_5, S70_6, S70_7, S70_10, S70_11, S70_12, S70_13, S70_14, S70_15, S70_16, S70_17, S70_18, S70_19, S70_20, S70_21, S70, r_skip, r_ops, r_draw, r_seq, r_blk, r_exit, r_ret, r_cond, k_seq, k_blk, x_seq, x_ret, x_exit, o_nil, o_on, o_never, o_call, o_move, a_move, o_assign, a_assign, o_pick, a_pick, o_alloc, a_alloc, o_box, a_box, o_build, a_build, o_buildSlice, a_buildSlice, o_load, a_load, o_store, a_store, o_nilCheck, a_nilCheck, o_binOp, a_binOp, o_unOp, a_unOp, o_convert, a_convert, o_makeFunc, a_makeFunc, o_makeMap, a_makeMap, o_makeSlice, a_makeSlice, o_slice, a_slice, o_fieldAddr, a_fieldAddr, o_field, a_field, o_indexAddr, a_indexAddr, o_index, a_index, o_lookup, a_lookup, o_mapUpdate, a_mapUpdate, o_extract, a_extract, o_bi, a_builtin, box_agg, box_uN, box_iv, box_int, box_bool, box_ptr, box_slice, box_map, box_func, box_string, gO_some, gIf_true, gIf_false, gG_tt, gG_tf, gG_ft, gG_ff, gG_undef, b1_some, b2_some, b3_some, bl_some, vA_some, hA_some, pickV_bool, updO_some, updO_none, evList_nil, evList_cons, evParts_nil, evParts_cons, evOpt_none', evOpt_some', e_ret, f_nil, gF_some, res_nil', res_tmp', res_cell', one1, one0, one2, one3, ev_tmp, ev_func, ev_u, ev_iv, ev_int, ev_bool, ev_nil, ev_nilSlice, ev_nilMap, ev_nilFunc, ev_string, upd_at, rhoL_at, k_top, x_top, List.getD_cons_zero, List.getD_cons_succ, List.getD_nil, reduceIte, Nat.reduceEqDiff, cond_true, cond_false, Bool.not_true, Bool.not_false, if_true, if_false, Nat.reduceEqDiff, un_not, reduceCtorEq, decide_true, decide_false, List.append_nil, List.nil_append, List.cons_append, fa56_1, ia49, ld48, fa56_0, ld37, ldA29, fa56_2, ld32, fa56_4, fa61_0, ld58, al64, fa64_2, ld3, fa56_3, ld34, fa64_0, ld4, fa61_1, fa64_1, al43, ldA43, ia32, fa45_2, fa45_4, fa45_5, al76, ld22, ld76, fa54_2, fa88_0, ld86, ia86, fa120_1, ld117, fa120_0, ld70, al22, ld5, updL]
    refine ⟨_, h6, rfl, ?_⟩
    have hwd := wdR_lt hs.byte (off := off) (7 - k)
    have hwd7 : wdR b off (7 - k) < 256 ^ 7 := Nat.lt_of_lt_of_le hwd (Nat.pow_le_pow_right (by omega) (by omega))
    have hm2 : wdR b off (7 - k) * 256 % 18446744073709551616 = wdR b off (7 - k) * 256 := Nat.mod_eq_of_lt (by omega)
    simp [r_skip, r_ops, r_draw, r_seq, r_blk, r_exit, r_ret, r_cond, k_seq, k_blk, x_seq, x_ret, x_exit, o_nil, o_on, o_never, o_call, o_move, a_move, o_assign, a_assign, o_pick, a_pick, o_alloc, a_alloc, o_box, a_box, o_build, a_build, o_buildSlice, a_buildSlice, o_load, a_load, o_store, a_store, o_nilCheck, a_nilCheck, o_binOp, a_binOp, o_unOp, a_unOp, o_convert, a_convert, o_makeFunc, a_makeFunc, o_makeMap, a_makeMap, o_makeSlice, a_makeSlice, o_slice, a_slice, o_fieldAddr, a_fieldAddr, o_field, a_field, o_indexAddr, a_indexAddr, o_index, a_index, o_lookup, a_lookup, o_mapUpdate, a_mapUpdate, o_extract, a_extract, o_bi, a_builtin, box_agg, box_uN, box_iv, box_int, box_bool, box_ptr, box_slice, box_map, box_func, box_string, gO_some, gIf_true, gIf_false, gG_tt, gG_tf, gG_ft, gG_ff, gG_undef, b1_some, b2_some, b3_some, bl_some, vA_some, hA_some, pickV_bool, updO_some, updO_none, evList_nil, evList_cons, evParts_nil, evParts_cons, evOpt_none', evOpt_some', e_ret, f_nil, gF_some, res_nil', res_tmp', res_cell', one1, one0, one2, one3, ev_tmp, ev_func, ev_u, ev_iv, ev_int, ev_bool, ev_nil, ev_nilSlice, ev_nilMap, ev_nilFunc, ev_string, upd_at, rhoL_at, k_top, x_top, List.getD_cons_zero, List.getD_cons_succ, List.getD_nil, reduceIte, Nat.reduceEqDiff, cond_true, cond_false, Bool.not_true, Bool.not_false, if_true, if_false, Nat.reduceEqDiff, un_not, reduceCtorEq, decide_true, decide_false, List.append_nil, List.nil_append, List.cons_append, fa56_1, ia49, ld48, fa56_0, ld37, ldA29, fa56_2, ld32, fa56_4, fa61_0, ld58, al64, fa64_2, ld3, fa56_3, ld34, fa64_0, ld4, fa61_1, fa64_1, al43, ldA43, ia32, fa45_2, fa45_4, fa45_5, al76, ld22, ld76, fa54_2, fa88_0, ld86, ia86, fa120_1, ld117, fa120_0, ld70, al22, ld5, updL, e6, hcB, bu_shlU (n := 8) (by omega), cv5_22 (hs.byte _), hm2, bu_orB hwd7 (hs.byte _), st22 (v := u (wdR b off (7 - k) * 256 + b (off + k))) hoB rfl rfl]
    refine yEnd_n (r := ⟨.busy, none, 70, 30, tm, #[22, 23], S70_8, S70_9, A2.next⟩) ?_ ⟨rfl, ?_, ?_, ?_, ?_, ?_, ?_, ?_⟩
    · rw [AHeap.obj_put_other (by omega), AHeap.obj_set, if_pos rfl]
    · refine Kp.setNew (o := .loop ⟨.busy, none, 70, 30, tm, #[22, 23], S70_8, S70_9, A2.next⟩) ?_ (by omega) (by rw [AHeap.obj_put_other (by omega), AHeap.obj_set, if_pos rfl])
      exact Kp.putNew (h1.setNew (by omega) h6) (Nat.le_refl _) hoB
    · simp [AHeap.next_put]; omega
    · rw [AHeap.cell_set (by omega), AHeap.cell_put hoB, if_neg (by omega), AHeap.cell_set (by omega)]; exact h3
    · rw [AHeap.cell_set (by omega), AHeap.cell_put hoB, if_pos ⟨rfl, rfl⟩]
      have : 8 - k = (7 - k) + 1 := by omega
      rw [this]
      show _ = some (u (wdR b off (7 - k) * 256 + b (off + (7 - (7 - k)))))
      rw [show 7 - (7 - k) = k from by omega]
    · exact AHeap.own_set (by omega) (AHeap.own_put hoB)
    · rw [AHeap.obj_set, if_pos rfl]
    · rw [AHeap.obj_set, if_neg (by omega), AHeap.obj_put_other (by omega), AHeap.obj_set, if_neg (by omega)]; exact h7
  · exact ⟨hkS, by show A.next + 4 ≤ A2.next + 2; omega, by
      unfold startA
      rw [AHeap.cell_push (by simp; omega), AHeap.cell_push (by omega)]; exact hsl, by
      unfold startA
      rw [AHeap.cell_push (by simp; omega), AHeap.cell_push (by omega)]; exact hacc, AHeap.own_push ((hk2.push _).wf) (AHeap.own_push hk2.wf hown), by
      unfold startA
      rw [AHeap.obj_push, if_pos (by simp)], by
      unfold startA
      rw [AHeap.obj_push, if_neg (by simp), AHeap.obj_push, if_pos rfl]⟩
  · rintro B ⟨h1, h2, h3, h4, h5, h6, h7⟩
    refine ⟨_, h6, by simp, ?_⟩
    have hcB : (B.set (A2.next + 1) (.loop ⟨.exhausted, none, 70, 30, tm, #[22, 23], S70_8, S70_9, A2.next⟩)).cell A.next 0 = some (u (wdR b off (8 - 0))) := by rw [AHeap.cell_set (by omega)]; exact h4
    simp [wJump, r_skip, r_ops, r_draw, r_seq, r_blk, r_exit, r_ret, r_cond, k_seq, k_blk, x_seq, x_ret, x_exit, o_nil, o_on, o_never, o_call, o_move, a_move, o_assign, a_assign, o_pick, a_pick, o_alloc, a_alloc, o_box, a_box, o_build, a_build, o_buildSlice, a_buildSlice, o_load, a_load, o_store, a_store, o_nilCheck, a_nilCheck, o_binOp, a_binOp, o_unOp, a_unOp, o_convert, a_convert, o_makeFunc, a_makeFunc, o_makeMap, a_makeMap, o_makeSlice, a_makeSlice, o_slice, a_slice, o_fieldAddr, a_fieldAddr, o_field, a_field, o_indexAddr, a_indexAddr, o_index, a_index, o_lookup, a_lookup, o_mapUpdate, a_mapUpdate, o_extract, a_extract, o_bi, a_builtin, box_agg, box_uN, box_iv, box_int, box_bool, box_ptr, box_slice, box_map, box_func, box_string, gO_some, gIf_true, gIf_false, gG_tt, gG_tf, gG_ft, gG_ff, gG_undef, b1_some, b2_some, b3_some, bl_some, vA_some, hA_some, pickV_bool, updO_some, updO_none, evList_nil, evList_cons, evParts_nil, evParts_cons, evOpt_none', evOpt_some', e_ret, f_nil, gF_some, res_nil', res_tmp', res_cell', one1, one0, one2, one3, ev_tmp, ev_func, ev_u, ev_iv, ev_int, ev_bool, ev_nil, ev_nilSlice, ev_nilMap, ev_nilFunc, ev_string, upd_at, rhoL_at, k_top, x_top, List.getD_cons_zero, List.getD_cons_succ, List.getD_nil, reduceIte, Nat.reduceEqDiff, cond_true, cond_false, Bool.not_true, Bool.not_false, if_true, if_false, Nat.reduceEqDiff, un_not, reduceCtorEq, decide_true, decide_false, List.append_nil, List.nil_append, List.cons_append, fa56_1, ia49, ld48, fa56_0, ld37, ldA29, fa56_2, ld32, fa56_4, fa61_0, ld58, al64, fa64_2, ld3, fa56_3, ld34, fa64_0, ld4, fa61_1, fa64_1, al43, ldA43, ia32, fa45_2, fa45_4, fa45_5, al76, ld22, ld76, fa54_2, fa88_0, ld86, ia86, fa120_1, ld117, fa120_0, ld70, al22, ld5, hcB, f_mark, AHeap.obj_set, h7]
    refine h _ (Kp.setNew (o := .marks) (Kp.setNew h1 (by omega) h6) (by omega) ?_)
    rw [AHeap.obj_set, if_neg (by omega)]; exact h7
end Go.Abs
