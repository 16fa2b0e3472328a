/- Texts of this claim. -/
import Derived.Test.YtbgcilmnenlheaaGreatC0
import Derived.KernelRfl
set_option linter.unusedSimpArgs false
set_option linter.unusedVariables false
namespace Go.Abs
open Go Go.Proofs
set_option linter.unusedSimpArgs false
set_option linter.unusedVariables false
variable {X0 : Ext0} {K : Value → AHeap → Prop} {A : AHeap}
theorem lenSl {t n c : Nat} {a : Option Addr} {A : AHeap} (h : ∃ e, E0.und t = some (.slice e)) : aBuiltin E0 .len #[t] [.slice a n c] A = some (iv n, A) := by
  obtain ⟨e, he⟩ := h
  simp only [aBuiltin, aLen, he, goInt, Option.map_some]; rfl
theorem len22 {n c : Nat} {a : Option Addr} {A : AHeap} : aBuiltin E0 .len #[22] [.slice a n c] A = some (iv n, A) := lenSl ⟨53, by kernel_rfl⟩
theorem len23 {n c : Nat} {a : Option Addr} {A : AHeap} : aBuiltin E0 .len #[23] [.slice a n c] A = some (iv n, A) := lenSl ⟨54, by kernel_rfl⟩
theorem len26 {n c : Nat} {a : Option Addr} {A : AHeap} : aBuiltin E0 .len #[26] [.slice a n c] A = some (iv n, A) := lenSl ⟨51, by kernel_rfl⟩
theorem len28 {n c : Nat} {a : Option Addr} {A : AHeap} : aBuiltin E0 .len #[28] [.slice a n c] A = some (iv n, A) := lenSl ⟨44, by kernel_rfl⟩
theorem mk28 : mkOf E0 28 = some (3, 24, .agg #[iv 0, iv 0, iv 0]) := by kernel_rfl
theorem mk26 : mkOf E0 26 = some (15, 128, .agg #[(iv 0), (iv 0), (u 0), (u 0), (u 0), (u 0), (u 0), (iv 0), (.string ⟨#[]⟩), (iv 0), (u 0), (u 0), (iv 0), (iv 0), (.bool false)]) := by kernel_rfl
theorem mk40 : mkOf E0 40 = some (1, 8, iv 0) := by kernel_rfl
theorem mp42 : mapOf E0 42 = some (.int .i64, some (.bool false)) := by kernel_rfl
theorem bd44 {a b c : Int} : aBuild E0 44 [(0, iv a), (1, iv b), (2, iv c)] = some (.agg #[iv a, iv b, iv c]) := by kernel_rfl
theorem bd51 {a b e : Int} {g1 g2 g3 g4 g5 g6 g7 g8 g9 g10 g11 : Value} : aBuild E0 51 [(0, iv a), (1, .agg #[g1, g2, g3, g4, g5, g6, g7, g8]), (2, .agg #[g9, g10, g11]), (3, iv b), (4, iv e)] = some (.agg #[iv a, g1, g2, g3, g4, g5, g6, g7, g8, g9, g10, g11, iv b, iv e, .bool false]) := by kernel_rfl
theorem app_eq {t : Nat} {x y : Value} {A : AHeap} : aBuiltin E0 .append #[t, t] [x, y] A = aAppend E0 t t x y A := rfl
theorem iaN {t s k n : Nat} {b : Option Addr} {i : Nat} (h : iaSl E0 t = some s) (hb : b = some ⟨i, 0, none⟩) (hk : k < n) : aIndexAddr E0 t (.slice b n n) (iv (k : Int)) = some (ptr i (k * s)) := by
  subst hb
  have := ia_eq (E := E0) (t := t) h (i := i) (off := 0) (cap := n) (kd := .i64) hk
  exact this.trans (by rw [Nat.zero_add])
theorem bs28 {a b c : Value} {A : AHeap} : aBuildSlice E0 28 1 [(0, .agg #[a, b, c])] A = some (.slice (some ⟨A.next, 0, none⟩) 1 1, A.push (.cells false 3 3 [] (T.ofList [a, b, c]))) := bs_one mk28 (by decide) rfl
theorem bs26 {g0 g1 g2 g3 g4 g5 g6 g7 g8 g9 g10 g11 g12 g13 g14 : Value} {A : AHeap} : aBuildSlice E0 26 1 [(0, .agg #[g0, g1, g2, g3, g4, g5, g6, g7, g8, g9, g10, g11, g12, g13, g14])] A = some (.slice (some ⟨A.next, 0, none⟩) 1 1, A.push (.cells false 15 15 [] (T.ofList [g0, g1, g2, g3, g4, g5, g6, g7, g8, g9, g10, g11, g12, g13, g14]))) := bs_one mk26 (by decide) rfl
theorem bs40 {a : Int} {A : AHeap} : aBuildSlice E0 40 1 [(0, iv a)] A = some (.slice (some ⟨A.next, 0, none⟩) 1 1, A.push (.cells false 1 1 [] (T.ofList [iv a]))) := bs_one mk40 (by decide) rfl
/-- A variable is made, and what a row is is laid there. -/
theorem var_new {t m : Nat} (hsz : (E0.inf t).map (·.size) = some m) {z : List Value} {B : AHeap} {cs : Array Value} (hc : cs.size = m) (h1 : cs.toList.all Value.oneCell' = true) (hw : WF B) :
    ∃ B1, aStore E0 t (ptr B.next 0) (.agg cs) (B.push (.cells false 0 m z .e)) = some B1 ∧ Kp B B1 ∧ (∀ j, j < m → B1.cell B.next j = cs[j]?) ∧ B1.next = B.next + 1 := by
  have ho : (B.push (.cells false 0 m z .e)).obj B.next = some (.cells false 0 m z .e) := by rw [AHeap.obj_push, if_pos rfl]
  have hk : Kp B (B.push (.cells false 0 m z .e)) := (Kp.refl hw).push _
  refine ⟨_, stA_eq hsz ⟨0, m, z, .e, ho, by omega⟩ hc h1, ?_, ?_, ?_⟩
  · unfold AHeap.puts; rw [ho]; exact hk.setN (Nat.le_refl _) ho
  · intro j hj
    unfold AHeap.puts
    rw [ho]
    unfold AHeap.cell
    simp only [AHeap.obj_set, if_pos]
    rw [if_pos hj]
    unfold cellAt
    have hcs : (Value.agg cs).cells.toList = cs.toList := rfl
    rw [T.get_putList, if_pos (by rw [hcs]; simp; omega), hcs]
    have : j < cs.size := by omega
    simp [this]
  · unfold AHeap.puts; rw [ho]; rfl
theorem sz44 : (E0.inf 44).map (·.size) = some 3 := by kernel_rfl
theorem sz51 : (E0.inf 51).map (·.size) = some 15 := by kernel_rfl
/-- What the law says of events and records, as both sides reckon it. -/
structure Tr where
  n : Nat
  F : Nat → Nat → Int
  nr : Nat
  Bg : Nat → Int
  En : Nat → Int
def Tr.step (t : Tr) (ks : List Int) (i : Nat) : Option (List Int) :=
  if 0 < i ∧ t.F i 2 < t.F (i - 1) 2 then none
  else if t.F i 0 ≤ 0 then some ks
  else if (t.nr : Int) < t.F i 0 ∨ t.F i 0 - 1 ∈ ks then none
  else if t.F i 2 < t.Bg (t.F i 0 - 1).toNat ∨ (t.En (t.F i 0 - 1).toNat ≠ -1 ∧ t.F i 2 > t.En (t.F i 0 - 1).toNat) then none
  else some (ks ++ [t.F i 0 - 1])
def Tr.run (t : Tr) : Nat → Nat → List Int → Option (List Int)
  | 0, _, ks => some ks
  | m + 1, i, ks => match t.step ks i with
    | none => none
    | some ks' => t.run m (i + 1) ks'
def Tr.fin (t : Tr) (ks : List Int) : Nat → Nat → Bool
  | 0, _ => true
  | m + 1, i => if t.En i ≠ -1 ∧ (i : Int) ∉ ks then false else t.fin ks m (i + 1)
def Tr.ok (t : Tr) : Bool := match t.run t.n 0 [] with
  | none => false
  | some ks => t.fin ks t.nr 0
end Go.Abs

namespace Go.Abs
open Go Go.Proofs
set_option linter.unusedSimpArgs false
set_option linter.unusedVariables false
variable {X0 : Ext0} {K : Value → AHeap → Prop} {A : AHeap}
theorem events_spec {be : Option Addr} {ne ie : Nat} {F : Nat → Nat → Int} (hw : WF A) (hne : ne ≤ 20) (hb : 0 < ne → be = some ⟨ie, 0, none⟩) (hc : ∀ k j, k < ne → j < 3 → A.cell ie (k * 3 + j) = some (iv (F k j)))
    (h : ∀ v A', Kp A A' → SlAt A' v 3 (fun k => [iv (F k 0), iv (F k 1), iv (F k 2)]) ne A.next → K v A') : wCall E0 X0 7 [.slice be ne ne] A K := by
  refine wCall_R fn7 s7 n7 r7 hw ?_
  simp [S7_0, S7_1, S7_2, S7_3, S7_4, S7_5, S7_6, S7_7, S7_8, S7_9, S7_10, S7_11, S7_12, S7_13, S7_14, S7_15, S7_16, S7_17, S7_18, S7, r_skip, r_ops, r_draw, r_seq, r_blk, r_exit, r_ret, r_cond, k_seq, k_blk, x_seq, x_ret, x_exit, o_nil, o_on, o_never, o_call, o_move, a_move, o_assign, a_assign, o_pick, a_pick, o_alloc, a_alloc, o_box, a_box, o_build, a_build, o_buildSlice, a_buildSlice, o_load, a_load, o_store, a_store, o_nilCheck, a_nilCheck, o_binOp, a_binOp, o_unOp, a_unOp, o_convert, a_convert, o_makeFunc, a_makeFunc, o_makeMap, a_makeMap, o_makeSlice, a_makeSlice, o_slice, a_slice, o_fieldAddr, a_fieldAddr, o_field, a_field, o_indexAddr, a_indexAddr, o_index, a_index, o_lookup, a_lookup, o_mapUpdate, a_mapUpdate, o_extract, a_extract, o_bi, a_builtin, box_agg, box_uN, box_iv, box_int, box_bool, box_ptr, box_slice, box_map, box_func, box_string, gO_some, gIf_true, gIf_false, gG_tt, gG_tf, gG_ft, gG_ff, gG_undef, b1_some, b2_some, b3_some, bl_some, vA_some, hA_some, pickV_bool, updO_some, updO_none, evList_nil, evList_cons, evParts_nil, evParts_cons, evOpt_none', evOpt_some', e_ret, f_nil, gF_some, res_nil', res_tmp', res_cell', one1, one0, one2, one3, ev_tmp, ev_func, ev_u, ev_iv, ev_int, ev_bool, ev_nil, ev_nilSlice, ev_nilMap, ev_nilFunc, ev_string, upd_at, rhoL_at, k_top, x_top, List.getD_cons_zero, List.getD_cons_succ, List.getD_nil, reduceIte, Nat.reduceEqDiff, cond_true, cond_false, Bool.not_true, Bool.not_false, if_true, if_false, Nat.reduceEqDiff, un_not, reduceCtorEq, decide_true, decide_false, List.append_nil, List.nil_append, List.cons_append, ia28, ldA44, al44, fa44_2, ld3, fa44_0, ia26, ldA51, al51, fa51_3, fa51_4, ia22, fa53_0, fa53_1, ldA46, fa53_2, ldA49, fa53_3, fa53_4, ia23, fa54_0, fa54_1, fa54_2, ia40]
  refine r_loop (fun q ds ρ B => ∃ i, q = ne - i ∧ i ≤ ne ∧ ds = [] ∧ ρ 0 = .slice be ne ne ∧ ρ 4 = iv (i : Int) ∧ Kp A B ∧ SlAt B (ρ 3) 3 (fun k => [iv (F k 0), iv (F k 1), iv (F k 2)]) i A.next) (m := ne) ⟨0, rfl, by omega, rfl, rfl, rfl, Kp.refl hw, .inl ⟨rfl, rfl⟩⟩ ?_
  rintro q ds ρ B ⟨i, rfl, hi, rfl, h0, h4, hk, hS⟩
  by_cases hlt : i < ne
  · have hlt' : (i : Int) < ne := by omega
    have hbe := hb (by omega)
    have hc' := fun j hj => hk.cell hw (hc i j hlt hj)
    have c0 : B.cell ie (i * 3) = _ := hc' 0 (by decide)
    have c1 := hc' 1 (by decide)
    have c2 := hc' 2 (by decide)
    obtain ⟨v', A', e1, hS', hl', hq'⟩ := app_one mk28 (by decide) rfl (A := B.push (.cells false 3 3 [] (T.ofList [iv (F i 0), iv (F i 1), iv (F i 2)]))) (v := ρ 3) (row := fun k => [iv (F k 0), iv (F k 1), iv (F k 2)]) (n := i) (lo := A.next) (j := B.next)
      (hk.push _).wf (hS.kp hk.wf ((Kp.refl hk.wf).push _)) (by omega) (by have := hk.next; simp; omega) (by rw [AHeap.obj_push, if_pos rfl]) (fun _ _ => rfl) rfl
    simp [r_skip, r_ops, r_draw, r_seq, r_blk, r_exit, r_ret, r_cond, k_seq, k_blk, x_seq, x_ret, x_exit, o_nil, o_on, o_never, o_call, o_move, a_move, o_assign, a_assign, o_pick, a_pick, o_alloc, a_alloc, o_box, a_box, o_build, a_build, o_buildSlice, a_buildSlice, o_load, a_load, o_store, a_store, o_nilCheck, a_nilCheck, o_binOp, a_binOp, o_unOp, a_unOp, o_convert, a_convert, o_makeFunc, a_makeFunc, o_makeMap, a_makeMap, o_makeSlice, a_makeSlice, o_slice, a_slice, o_fieldAddr, a_fieldAddr, o_field, a_field, o_indexAddr, a_indexAddr, o_index, a_index, o_lookup, a_lookup, o_mapUpdate, a_mapUpdate, o_extract, a_extract, o_bi, a_builtin, box_agg, box_uN, box_iv, box_int, box_bool, box_ptr, box_slice, box_map, box_func, box_string, gO_some, gIf_true, gIf_false, gG_tt, gG_tf, gG_ft, gG_ff, gG_undef, b1_some, b2_some, b3_some, bl_some, vA_some, hA_some, pickV_bool, updO_some, updO_none, evList_nil, evList_cons, evParts_nil, evParts_cons, evOpt_none', evOpt_some', e_ret, f_nil, gF_some, res_nil', res_tmp', res_cell', one1, one0, one2, one3, ev_tmp, ev_func, ev_u, ev_iv, ev_int, ev_bool, ev_nil, ev_nilSlice, ev_nilMap, ev_nilFunc, ev_string, upd_at, rhoL_at, k_top, x_top, List.getD_cons_zero, List.getD_cons_succ, List.getD_nil, reduceIte, Nat.reduceEqDiff, cond_true, cond_false, Bool.not_true, Bool.not_false, if_true, if_false, Nat.reduceEqDiff, un_not, reduceCtorEq, decide_true, decide_false, List.append_nil, List.nil_append, List.cons_append, r0_move, r1_move, r2_move, r4_move, r0_assign, r1_assign, r2_assign, r4_assign, r0_pick, r1_pick, r2_pick, r4_pick, r0_alloc, r1_alloc, r2_alloc, r4_alloc, r0_box, r1_box, r2_box, r4_box, r0_build, r1_build, r2_build, r4_build, r0_buildSlice, r1_buildSlice, r2_buildSlice, r4_buildSlice, r0_load, r1_load, r2_load, r4_load, r0_store, r1_store, r2_store, r4_store, r0_nilCheck, r1_nilCheck, r2_nilCheck, r4_nilCheck, r0_binOp, r1_binOp, r2_binOp, r4_binOp, r0_unOp, r1_unOp, r2_unOp, r4_unOp, r0_convert, r1_convert, r2_convert, r4_convert, r0_makeFunc, r1_makeFunc, r2_makeFunc, r4_makeFunc, r0_makeMap, r1_makeMap, r2_makeMap, r4_makeMap, r0_makeSlice, r1_makeSlice, r2_makeSlice, r4_makeSlice, r0_slice, r1_slice, r2_slice, r4_slice, r0_fieldAddr, r1_fieldAddr, r2_fieldAddr, r4_fieldAddr, r0_field, r1_field, r2_field, r4_field, r0_indexAddr, r1_indexAddr, r2_indexAddr, r4_indexAddr, r0_index, r1_index, r2_index, r4_index, r0_lookup, r1_lookup, r2_lookup, r4_lookup, r0_mapUpdate, r1_mapUpdate, r2_mapUpdate, r4_mapUpdate, r0_extract, r1_extract, r2_extract, r4_extract, r0_bi, r1_bi, r2_bi, r4_bi, rr_nil, rr_on, rr_5, rr_3, rr_4c, ag_nil, ag_cons, gR_some, gR5_some, gRG_tt, gRG_tf, gRG_ft, gRG_ff, true_and, and_true, ia28, ldA44, al44, fa44_2, ld3, fa44_0, ia26, ldA51, al51, fa51_3, fa51_4, ia22, fa53_0, fa53_1, ldA46, fa53_2, ldA49, fa53_3, fa53_4, ia23, fa54_0, fa54_1, fa54_2, ia40, h0, h4, bi_lss, hlt', len23, iaN (t := 23) (s := 3) (by kernel_rfl) hbe hlt, c0, c1, c2, bd44, bs28, app_eq, e1, bi_add (a := (i : Int)) (b := 1) (by omega) (by omega)]
    exact ⟨ne - (i + 1), by omega, i + 1, rfl, by omega, rfl, ⟨(hk.low.trans ((Kp.refl hk.wf).push _).low).trans hl', fun j hj => by rw [hq' j hj, AHeap.obj_push, if_neg (by have := hk.next; omega)]; exact hk.same j hj⟩, hS'⟩
  · have e8 : i = ne := by omega
    subst e8
    simp [r_skip, r_ops, r_draw, r_seq, r_blk, r_exit, r_ret, r_cond, k_seq, k_blk, x_seq, x_ret, x_exit, o_nil, o_on, o_never, o_call, o_move, a_move, o_assign, a_assign, o_pick, a_pick, o_alloc, a_alloc, o_box, a_box, o_build, a_build, o_buildSlice, a_buildSlice, o_load, a_load, o_store, a_store, o_nilCheck, a_nilCheck, o_binOp, a_binOp, o_unOp, a_unOp, o_convert, a_convert, o_makeFunc, a_makeFunc, o_makeMap, a_makeMap, o_makeSlice, a_makeSlice, o_slice, a_slice, o_fieldAddr, a_fieldAddr, o_field, a_field, o_indexAddr, a_indexAddr, o_index, a_index, o_lookup, a_lookup, o_mapUpdate, a_mapUpdate, o_extract, a_extract, o_bi, a_builtin, box_agg, box_uN, box_iv, box_int, box_bool, box_ptr, box_slice, box_map, box_func, box_string, gO_some, gIf_true, gIf_false, gG_tt, gG_tf, gG_ft, gG_ff, gG_undef, b1_some, b2_some, b3_some, bl_some, vA_some, hA_some, pickV_bool, updO_some, updO_none, evList_nil, evList_cons, evParts_nil, evParts_cons, evOpt_none', evOpt_some', e_ret, f_nil, gF_some, res_nil', res_tmp', res_cell', one1, one0, one2, one3, ev_tmp, ev_func, ev_u, ev_iv, ev_int, ev_bool, ev_nil, ev_nilSlice, ev_nilMap, ev_nilFunc, ev_string, upd_at, rhoL_at, k_top, x_top, List.getD_cons_zero, List.getD_cons_succ, List.getD_nil, reduceIte, Nat.reduceEqDiff, cond_true, cond_false, Bool.not_true, Bool.not_false, if_true, if_false, Nat.reduceEqDiff, un_not, reduceCtorEq, decide_true, decide_false, List.append_nil, List.nil_append, List.cons_append, ia28, ldA44, al44, fa44_2, ld3, fa44_0, ia26, ldA51, al51, fa51_3, fa51_4, ia22, fa53_0, fa53_1, ldA46, fa53_2, ldA49, fa53_3, fa53_4, ia23, fa54_0, fa54_1, fa54_2, ia40, h0, h4, bi_lss, len23]
    exact h _ _ hk hS
end Go.Abs

namespace Go.Abs
open Go Go.Proofs
set_option linter.unusedSimpArgs false
set_option linter.unusedVariables false
variable {X0 : Ext0} {K : Value → AHeap → Prop} {A : AHeap}
/-- A record's cells as the program has them. -/
def rowR (G : Nat → Nat → Value) (k : Nat) : List Value := [G k 0, G k 1, G k 2, G k 3, G k 4, G k 5, G k 6, G k 7, G k 8, G k 9, G k 10, G k 11, G k 12, G k 13, .bool false]
/-- What is known of records. -/
structure RecsAt (A : AHeap) (b : Option Addr) (n i : Nat) (G : Nat → Nat → Value) (Bg En : Nat → Int) : Prop where
  few : n ≤ 20
  base : 0 < n → b = some ⟨i, 0, none⟩
  cell : ∀ k j, k < n → j < 14 → A.cell i (k * 14 + j) = some (G k j)
  who : ∀ k, k < n → ∃ a, G k 0 = iv a
  beg : ∀ k, k < n → G k 12 = iv (Bg k)
  end_ : ∀ k, k < n → G k 13 = iv (En k)
  one : ∀ k j, k < n → j < 14 → (G k j).oneCell' = true
theorem RecsAt.kp {A B : AHeap} {b : Option Addr} {n i : Nat} {G : Nat → Nat → Value} {Bg En : Nat → Int} (h : RecsAt A b n i G Bg En) (hA : WF A) (hk : Kp A B) : RecsAt B b n i G Bg En :=
  ⟨h.few, h.base, fun k j a c => hk.cell hA (h.cell k j a c), h.who, h.beg, h.end_, h.one⟩
theorem records_spec {b : Option Addr} {n ir : Nat} {G : Nat → Nat → Value} {Bg En : Nat → Int} (hw : WF A) (hR : RecsAt A b n ir G Bg En)
    (h : ∀ v A', Kp A A' → SlAt A' v 15 (rowR G) n A.next → K v A') : wCall E0 X0 6 [.slice b n n] A K := by
  refine wCall_R fn6 s6 n6 r6 hw ?_
  simp [S6_0, S6_1, S6_2, S6_3, S6_4, S6_5, S6_6, S6_7, S6_8, S6_9, S6_10, S6_11, S6_12, S6_13, S6_14, S6_15, S6_16, S6_17, S6_18, S6, r_skip, r_ops, r_draw, r_seq, r_blk, r_exit, r_ret, r_cond, k_seq, k_blk, x_seq, x_ret, x_exit, o_nil, o_on, o_never, o_call, o_move, a_move, o_assign, a_assign, o_pick, a_pick, o_alloc, a_alloc, o_box, a_box, o_build, a_build, o_buildSlice, a_buildSlice, o_load, a_load, o_store, a_store, o_nilCheck, a_nilCheck, o_binOp, a_binOp, o_unOp, a_unOp, o_convert, a_convert, o_makeFunc, a_makeFunc, o_makeMap, a_makeMap, o_makeSlice, a_makeSlice, o_slice, a_slice, o_fieldAddr, a_fieldAddr, o_field, a_field, o_indexAddr, a_indexAddr, o_index, a_index, o_lookup, a_lookup, o_mapUpdate, a_mapUpdate, o_extract, a_extract, o_bi, a_builtin, box_agg, box_uN, box_iv, box_int, box_bool, box_ptr, box_slice, box_map, box_func, box_string, gO_some, gIf_true, gIf_false, gG_tt, gG_tf, gG_ft, gG_ff, gG_undef, b1_some, b2_some, b3_some, bl_some, vA_some, hA_some, pickV_bool, updO_some, updO_none, evList_nil, evList_cons, evParts_nil, evParts_cons, evOpt_none', evOpt_some', e_ret, f_nil, gF_some, res_nil', res_tmp', res_cell', one1, one0, one2, one3, ev_tmp, ev_func, ev_u, ev_iv, ev_int, ev_bool, ev_nil, ev_nilSlice, ev_nilMap, ev_nilFunc, ev_string, upd_at, rhoL_at, k_top, x_top, List.getD_cons_zero, List.getD_cons_succ, List.getD_nil, reduceIte, Nat.reduceEqDiff, cond_true, cond_false, Bool.not_true, Bool.not_false, if_true, if_false, Nat.reduceEqDiff, un_not, reduceCtorEq, decide_true, decide_false, List.append_nil, List.nil_append, List.cons_append, ia28, ldA44, al44, fa44_2, ld3, fa44_0, ia26, ldA51, al51, fa51_3, fa51_4, ia22, fa53_0, fa53_1, ldA46, fa53_2, ldA49, fa53_3, fa53_4, ia23, fa54_0, fa54_1, fa54_2, ia40]
  refine r_loop (fun q ds ρ B => ∃ i, q = n - i ∧ i ≤ n ∧ ds = [] ∧ ρ 0 = .slice b n n ∧ ρ 4 = iv (i : Int) ∧ Kp A B ∧ SlAt B (ρ 3) 15 (rowR G) i A.next) (m := n) ⟨0, rfl, by omega, rfl, rfl, rfl, Kp.refl hw, .inl ⟨rfl, rfl⟩⟩ ?_
  rintro q ds ρ B ⟨i, rfl, hi, rfl, h0, h4, hk, hS⟩
  by_cases hlt : i < n
  · have hlt' : (i : Int) < n := by omega
    have hbe := hR.base (by omega)
    have hRB := hR.kp hw hk
    obtain ⟨a, ha⟩ := hR.who i hlt
    have c0 : B.cell ir (i * 14) = some (iv a) := by rw [← ha]; exact hRB.cell i 0 hlt (by decide)
    have c12 : B.cell ir (i * 14 + 12) = some (iv (Bg i)) := by rw [← hR.beg i hlt]; exact hRB.cell i 12 hlt (by decide)
    have c13 : B.cell ir (i * 14 + 13) = some (iv (En i)) := by rw [← hR.end_ i hlt]; exact hRB.cell i 13 hlt (by decide)
    have cO : B.cells ir (i * 14 + 1) 8 = some (.agg #[G i 1, G i 2, G i 3, G i 4, G i 5, G i 6, G i 7, G i 8]) := cells_of (c := fun j => G i (1 + j)) (by decide) fun j hj => by rw [Nat.add_assoc]; exact hRB.cell i (1 + j) hlt (by omega)
    have cR : B.cells ir (i * 14 + 9) 3 = some (.agg #[G i 9, G i 10, G i 11]) := cells_of (c := fun j => G i (9 + j)) (by decide) fun j hj => by rw [Nat.add_assoc]; exact hRB.cell i (9 + j) hlt (by omega)
    have er : rowR G i = [iv a, G i 1, G i 2, G i 3, G i 4, G i 5, G i 6, G i 7, G i 8, G i 9, G i 10, G i 11, iv (Bg i), iv (En i), .bool false] := by unfold rowR; rw [ha, hR.beg i hlt, hR.end_ i hlt]
    obtain ⟨v', A', e1, hS', hl', hq'⟩ := app_one mk26 (by decide) rfl (A := B.push (.cells false 15 15 [] (T.ofList [iv a, G i 1, G i 2, G i 3, G i 4, G i 5, G i 6, G i 7, G i 8, G i 9, G i 10, G i 11, iv (Bg i), iv (En i), .bool false]))) (v := ρ 3) (row := rowR G) (n := i) (lo := A.next) (j := B.next)
      (hk.push _).wf (hS.kp hk.wf ((Kp.refl hk.wf).push _)) (by have := hR.few; omega) (by have := hk.next; simp; omega) (by rw [AHeap.obj_push, if_pos rfl, er]) (fun _ _ => rfl) (by
        have := fun j hj => hR.one i j hlt hj
        simp [rowR, this, show (Value.bool false).oneCell' = true from rfl])
    have h20 := hR.few
    simp [r_skip, r_ops, r_draw, r_seq, r_blk, r_exit, r_ret, r_cond, k_seq, k_blk, x_seq, x_ret, x_exit, o_nil, o_on, o_never, o_call, o_move, a_move, o_assign, a_assign, o_pick, a_pick, o_alloc, a_alloc, o_box, a_box, o_build, a_build, o_buildSlice, a_buildSlice, o_load, a_load, o_store, a_store, o_nilCheck, a_nilCheck, o_binOp, a_binOp, o_unOp, a_unOp, o_convert, a_convert, o_makeFunc, a_makeFunc, o_makeMap, a_makeMap, o_makeSlice, a_makeSlice, o_slice, a_slice, o_fieldAddr, a_fieldAddr, o_field, a_field, o_indexAddr, a_indexAddr, o_index, a_index, o_lookup, a_lookup, o_mapUpdate, a_mapUpdate, o_extract, a_extract, o_bi, a_builtin, box_agg, box_uN, box_iv, box_int, box_bool, box_ptr, box_slice, box_map, box_func, box_string, gO_some, gIf_true, gIf_false, gG_tt, gG_tf, gG_ft, gG_ff, gG_undef, b1_some, b2_some, b3_some, bl_some, vA_some, hA_some, pickV_bool, updO_some, updO_none, evList_nil, evList_cons, evParts_nil, evParts_cons, evOpt_none', evOpt_some', e_ret, f_nil, gF_some, res_nil', res_tmp', res_cell', one1, one0, one2, one3, ev_tmp, ev_func, ev_u, ev_iv, ev_int, ev_bool, ev_nil, ev_nilSlice, ev_nilMap, ev_nilFunc, ev_string, upd_at, rhoL_at, k_top, x_top, List.getD_cons_zero, List.getD_cons_succ, List.getD_nil, reduceIte, Nat.reduceEqDiff, cond_true, cond_false, Bool.not_true, Bool.not_false, if_true, if_false, Nat.reduceEqDiff, un_not, reduceCtorEq, decide_true, decide_false, List.append_nil, List.nil_append, List.cons_append, r0_move, r1_move, r2_move, r4_move, r0_assign, r1_assign, r2_assign, r4_assign, r0_pick, r1_pick, r2_pick, r4_pick, r0_alloc, r1_alloc, r2_alloc, r4_alloc, r0_box, r1_box, r2_box, r4_box, r0_build, r1_build, r2_build, r4_build, r0_buildSlice, r1_buildSlice, r2_buildSlice, r4_buildSlice, r0_load, r1_load, r2_load, r4_load, r0_store, r1_store, r2_store, r4_store, r0_nilCheck, r1_nilCheck, r2_nilCheck, r4_nilCheck, r0_binOp, r1_binOp, r2_binOp, r4_binOp, r0_unOp, r1_unOp, r2_unOp, r4_unOp, r0_convert, r1_convert, r2_convert, r4_convert, r0_makeFunc, r1_makeFunc, r2_makeFunc, r4_makeFunc, r0_makeMap, r1_makeMap, r2_makeMap, r4_makeMap, r0_makeSlice, r1_makeSlice, r2_makeSlice, r4_makeSlice, r0_slice, r1_slice, r2_slice, r4_slice, r0_fieldAddr, r1_fieldAddr, r2_fieldAddr, r4_fieldAddr, r0_field, r1_field, r2_field, r4_field, r0_indexAddr, r1_indexAddr, r2_indexAddr, r4_indexAddr, r0_index, r1_index, r2_index, r4_index, r0_lookup, r1_lookup, r2_lookup, r4_lookup, r0_mapUpdate, r1_mapUpdate, r2_mapUpdate, r4_mapUpdate, r0_extract, r1_extract, r2_extract, r4_extract, r0_bi, r1_bi, r2_bi, r4_bi, rr_nil, rr_on, rr_5, rr_3, rr_4c, ag_nil, ag_cons, gR_some, gR5_some, gRG_tt, gRG_tf, gRG_ft, gRG_ff, true_and, and_true, ia28, ldA44, al44, fa44_2, ld3, fa44_0, ia26, ldA51, al51, fa51_3, fa51_4, ia22, fa53_0, fa53_1, ldA46, fa53_2, ldA49, fa53_3, fa53_4, ia23, fa54_0, fa54_1, fa54_2, ia40, h0, h4, bi_lss, hlt', len22, iaN (t := 22) (s := 14) (by kernel_rfl) hbe hlt, c0, c12, c13, cO, cR, bd51, bs26, app_eq, e1, bi_add (a := (i : Int)) (b := 1) (by omega) (by omega)]
    exact ⟨n - (i + 1), by omega, i + 1, rfl, by omega, rfl, ⟨(hk.low.trans ((Kp.refl hk.wf).push _).low).trans hl', fun j hj => by rw [hq' j hj, AHeap.obj_push, if_neg (by have := hk.next; omega)]; exact hk.same j hj⟩, hS'⟩
  · have e8 : i = n := by omega
    subst e8
    simp [r_skip, r_ops, r_draw, r_seq, r_blk, r_exit, r_ret, r_cond, k_seq, k_blk, x_seq, x_ret, x_exit, o_nil, o_on, o_never, o_call, o_move, a_move, o_assign, a_assign, o_pick, a_pick, o_alloc, a_alloc, o_box, a_box, o_build, a_build, o_buildSlice, a_buildSlice, o_load, a_load, o_store, a_store, o_nilCheck, a_nilCheck, o_binOp, a_binOp, o_unOp, a_unOp, o_convert, a_convert, o_makeFunc, a_makeFunc, o_makeMap, a_makeMap, o_makeSlice, a_makeSlice, o_slice, a_slice, o_fieldAddr, a_fieldAddr, o_field, a_field, o_indexAddr, a_indexAddr, o_index, a_index, o_lookup, a_lookup, o_mapUpdate, a_mapUpdate, o_extract, a_extract, o_bi, a_builtin, box_agg, box_uN, box_iv, box_int, box_bool, box_ptr, box_slice, box_map, box_func, box_string, gO_some, gIf_true, gIf_false, gG_tt, gG_tf, gG_ft, gG_ff, gG_undef, b1_some, b2_some, b3_some, bl_some, vA_some, hA_some, pickV_bool, updO_some, updO_none, evList_nil, evList_cons, evParts_nil, evParts_cons, evOpt_none', evOpt_some', e_ret, f_nil, gF_some, res_nil', res_tmp', res_cell', one1, one0, one2, one3, ev_tmp, ev_func, ev_u, ev_iv, ev_int, ev_bool, ev_nil, ev_nilSlice, ev_nilMap, ev_nilFunc, ev_string, upd_at, rhoL_at, k_top, x_top, List.getD_cons_zero, List.getD_cons_succ, List.getD_nil, reduceIte, Nat.reduceEqDiff, cond_true, cond_false, Bool.not_true, Bool.not_false, if_true, if_false, Nat.reduceEqDiff, un_not, reduceCtorEq, decide_true, decide_false, List.append_nil, List.nil_append, List.cons_append, ia28, ldA44, al44, fa44_2, ld3, fa44_0, ia26, ldA51, al51, fa51_3, fa51_4, ia22, fa53_0, fa53_1, ldA46, fa53_2, ldA49, fa53_3, fa53_4, ia23, fa54_0, fa54_1, fa54_2, ia40, h0, h4, bi_lss, len22]
    exact h _ _ hk hS
end Go.Abs

namespace Go.Abs
open Go Go.Proofs
set_option linter.unusedSimpArgs false
set_option linter.unusedVariables false
variable {X0 : Ext0} {K : Value → AHeap → Prop} {A : AHeap}
/-- Events as rows of three. -/
structure EvsAt (A : AHeap) (b : Option Addr) (n i : Nat) (F : Nat → Nat → Int) : Prop where
  base : 0 < n → b = some ⟨i, 0, none⟩
  cell : ∀ k j, k < n → j < 3 → A.cell i (k * 3 + j) = some (iv (F k j))
theorem EvsAt.kp {A B : AHeap} {b : Option Addr} {n i : Nat} {F : Nat → Nat → Int} (h : EvsAt A b n i F) (hA : WF A) (hk : Kp A B) : EvsAt B b n i F :=
  ⟨h.base, fun k j a c => hk.cell hA (h.cell k j a c)⟩
/-- Records as the program has them. -/
structure RxsAt (A : AHeap) (b : Option Addr) (n i : Nat) (G : Nat → Nat → Value) (Bg En : Nat → Int) : Prop where
  base : 0 < n → b = some ⟨i, 0, none⟩
  cell : ∀ k j, k < n → j < 15 → A.cell i (k * 15 + j) = (rowR G k)[j]?
  beg : ∀ k, k < n → G k 12 = iv (Bg k)
  end_ : ∀ k, k < n → G k 13 = iv (En k)
  one : ∀ k j, k < n → j < 14 → (G k j).oneCell' = true
theorem RxsAt.kp {A B : AHeap} {b : Option Addr} {n i : Nat} {G : Nat → Nat → Value} {Bg En : Nat → Int} (h : RxsAt A b n i G Bg En) (hA : WF A) (hk : Kp A B) : RxsAt B b n i G Bg En :=
  ⟨h.base, fun k j a c => by
    have := h.cell k j a c
    rw [List.getElem?_eq_getElem (show j < (rowR G k).length from c)] at this ⊢
    exact hk.cell hA this, h.beg, h.end_, h.one⟩
theorem RxsAt.row {A : AHeap} {b : Option Addr} {n i k : Nat} {G : Nat → Nat → Value} {Bg En : Nat → Int} (h : RxsAt A b n i G Bg En) (hk : k < n) : A.cells i (k * 15) 15 = some (.agg (rowR G k).toArray) :=
  cells_of (c := fun j => (rowR G k).getD j Go.undef) (by decide) fun j hj => by
    rw [h.cell k j hk hj, List.getElem?_eq_getElem (show j < (rowR G k).length from hj), List.getD_eq_getElem?_getD, List.getElem?_eq_getElem (show j < (rowR G k).length from hj)]; rfl
theorem RxsAt.row1 {A : AHeap} {b : Option Addr} {n i k : Nat} {G : Nat → Nat → Value} {Bg En : Nat → Int} (h : RxsAt A b n i G Bg En) (hk : k < n) : (rowR G k).toArray.toList.all Value.oneCell' = true := by
  have := fun j hj => h.one k j hk hj
  simp [rowR, this, show (Value.bool false).oneCell' = true from rfl]
end Go.Abs
