import Derived.Test.YtmlllckecalaaaaProg
import Derived.Test.YtmlllckecalaaaaB48b856e1
set_option linter.unusedVariables false
set_option linter.unusedSimpArgs false
namespace Go.Proofs.Ytmlllckecalaaaa.Eng
open Go Go.Proofs.Try

theorem c68 (l : List UInt8) (h1 : 1 ≤ l.length) (h7 : l.length ≤ 7) : Pure prog 68 [.str l] (.tup [.int .i64 (getS l), .int .i64 0]) := by
  refine Pure.of (fun _ _ => by simp only [nm, nmL, and_self]) fun S => acalls_of_vc low68 (by simp) ?_
  have hx := Ext.refl S
  have g1 : ¬ ((l.length : Int) < 1) := by omega
  have g2 : ¬ ((l.length : Int) > 7) := by omega
  simp -implicitDefEqProofs only [B68, g1, g2, vc_region, vc_quiet, vcD_nil, vcD_val2, vcDO_val, vcDO_asks, vcD_eff, vcD_guard2, vcDG_TT, vcDG_FF, vcDG_TF, vcDG_FT, vcDG_und, vcDG_Tdec, vcDG_Fdec, vcDEff, saysAll, pendAll, pendNext, addPend, Says, vc_bad, vc_seq, vc_ret, vc_skip, vc_block, vc_exit, vcGrps_nil, vcGrps_cons, vcGrps_guard2, vcG2_bool, vcG2_und, vcGB_TT, vcGB_FF, vcGB_TF, vcGB_FT, vcGB_Tdec, vcGB_Fdec, vcOps_nil, vcOps_cons, vcOut, KCall_ret, KCall_pan, skipF_nil, skipF_cons, Qseq_normal, Qseq_ret, Qseq_exit, Qseq_pan, Qblk_normal, Qblk_exit, Qblk_ret, Qblk_pan, Qpan_eq, Qcut_normal, Qcut_exit, Qcut_ret, Qcut_pan, Qloop_normal, Qloop_exit, Qloop_ret, Qloop_pan,
    stepOp, ev, upd_apply, putF, cellsOf, deref, faddrV, mk, abin, abinI, abinS, ibits, aeqb, aun, fldV, idxOf, elems, isPtr, putRef, splice, fillA, rowsA, minV, peqV, elemsA, rowBytes, strOf, Store.get_push, Store.get_set, Store.n_push, Store.n_set,
    Option.map_some, Option.map_none, reduceIte, Nat.reduceEqDiff, Nat.reduceAdd, Nat.reduceLeDiff, Nat.reduceLT, Nat.zero_add, Nat.add_zero, Nat.add_assoc, Nat.add_left_cancel_iff, Nat.left_eq_add, Nat.add_eq_left, Nat.lt_irrefl, Nat.le_refl,
    List.drop_zero, List.drop_succ_cons, List.take_succ_cons, List.take_zero, List.headD_cons, List.length_cons, List.length_nil, List.getElem?_cons_zero, List.getElem?_cons_succ, List.set_cons_zero, List.set_cons_succ, List.map_cons, List.map_nil,
    Bool.not_true, Bool.not_false, Bool.false_eq_true, Bool.true_eq_false, Bool.not_eq_true', Bool.not_eq_false', eq_self, false_imp_iff, true_imp_iff, and_true, true_and, and_false, false_and, or_true, true_or, initFr, fr0_at, Qend, resL, resV1, pack,
    decide_eq_true_eq, decide_eq_false_iff_not, Int.toNat_natCast, Option.some.injEq, exists_eq_left', vc_cond2, vcC2_bool, vcCB_T, vcCB_F, vcCB_dec, decide_true, decide_false]
  intro _ _
  refine vc_loop (fun n fr T => ∃ i : Nat, i + n = l.length ∧ fr 0 = .str l ∧ fr 5 = .int .i64 i ∧ fr 4 = .int .i64 (getS (l.take i)) ∧ T = S) l.length ⟨0, by omega, by simp [upd_apply], by simp [upd_apply], by simp [upd_apply, getS], rfl⟩ ?_
  rintro n fr T ⟨i, hin, f0, f16, f4, rfl⟩
  by_cases hlt : i < l.length
  · obtain ⟨b, hb⟩ : ∃ b, l[i]? = some b := ⟨_, List.getElem?_eq_getElem hlt⟩
    have h0 : (0 : Int) ≤ i := by omega
    have hlt' : (i : Int) < l.length := by omega
    have hi1 : IntKind.i64.wrap ((i : Int) + 1) = i + 1 := w64 _ (by omega) (by omega)
    have hv := getS_lt (l.take i)
    rw [List.length_take, Nat.min_eq_left (by omega)] at hv
    have hp := pow256 i (by omega)
    have hbl := b.toNat_lt
    have hmul : IntKind.i64.wrap ((getS (l.take i) : Int) * 256) = ((getS (l.take i) * 256 : Nat) : Int) := by
      rw [w64 _ (by omega) (by omega)]; omega
    have hwb : IntKind.i64.wrap (b.toNat : Int) = b.toNat := w64 _ (by omega) (by omega)
    have hadd : IntKind.i64.wrap (((getS (l.take i) * 256 : Nat) : Int) + (b.toNat : Int)) = ((getS (l.take i) * 256 + b.toNat : Nat) : Int) := by
      rw [w64 _ (by omega) (by omega)]; omega
    simp -implicitDefEqProofs only [f0, f16, f4, hlt', h0, hb, hi1, hmul, hwb, hadd, vc_region, vc_quiet, vcD_nil, vcD_val2, vcDO_val, vcDO_asks, vcD_eff, vcD_guard2, vcDG_TT, vcDG_FF, vcDG_TF, vcDG_FT, vcDG_und, vcDG_Tdec, vcDG_Fdec, vcDEff, saysAll, pendAll, pendNext, addPend, Says, vc_bad, vc_seq, vc_ret, vc_skip, vc_block, vc_exit, vcGrps_nil, vcGrps_cons, vcGrps_guard2, vcG2_bool, vcG2_und, vcGB_TT, vcGB_FF, vcGB_TF, vcGB_FT, vcGB_Tdec, vcGB_Fdec, vcOps_nil, vcOps_cons, vcOut, KCall_ret, KCall_pan, skipF_nil, skipF_cons, Qseq_normal, Qseq_ret, Qseq_exit, Qseq_pan, Qblk_normal, Qblk_exit, Qblk_ret, Qblk_pan, Qpan_eq, Qcut_normal, Qcut_exit, Qcut_ret, Qcut_pan, Qloop_normal, Qloop_exit, Qloop_ret, Qloop_pan,
    stepOp, ev, upd_apply, putF, cellsOf, deref, faddrV, mk, abin, abinI, abinS, ibits, aeqb, aun, fldV, idxOf, elems, isPtr, putRef, splice, fillA, rowsA, minV, peqV, elemsA, rowBytes, strOf, Store.get_push, Store.get_set, Store.n_push, Store.n_set,
    Option.map_some, Option.map_none, reduceIte, Nat.reduceEqDiff, Nat.reduceAdd, Nat.reduceLeDiff, Nat.reduceLT, Nat.zero_add, Nat.add_zero, Nat.add_assoc, Nat.add_left_cancel_iff, Nat.left_eq_add, Nat.add_eq_left, Nat.lt_irrefl, Nat.le_refl,
    List.drop_zero, List.drop_succ_cons, List.take_succ_cons, List.take_zero, List.headD_cons, List.length_cons, List.length_nil, List.getElem?_cons_zero, List.getElem?_cons_succ, List.set_cons_zero, List.set_cons_succ, List.map_cons, List.map_nil,
    Bool.not_true, Bool.not_false, Bool.false_eq_true, Bool.true_eq_false, Bool.not_eq_true', Bool.not_eq_false', eq_self, false_imp_iff, true_imp_iff, and_true, true_and, and_false, false_and, or_true, true_or, initFr, fr0_at, Qend, resL, resV1, pack,
    decide_eq_true_eq, decide_eq_false_iff_not, Int.toNat_natCast, Option.some.injEq, exists_eq_left', vc_cond2, vcC2_bool, vcCB_T, vcCB_F, vcCB_dec, decide_true, decide_false]
    exact fun _ => ⟨n - 1, by omega, i + 1, by omega, by simp, by rw [take_get hb, getS_app]⟩
  · have hlt' : ¬ (i : Int) < l.length := by omega
    have hi : i = l.length := by omega
    rw [hi, List.take_length] at f4
    simp -implicitDefEqProofs only [f0, f16, f4, hlt', vc_region, vc_quiet, vcD_nil, vcD_val2, vcDO_val, vcDO_asks, vcD_eff, vcD_guard2, vcDG_TT, vcDG_FF, vcDG_TF, vcDG_FT, vcDG_und, vcDG_Tdec, vcDG_Fdec, vcDEff, saysAll, pendAll, pendNext, addPend, Says, vc_bad, vc_seq, vc_ret, vc_skip, vc_block, vc_exit, vcGrps_nil, vcGrps_cons, vcGrps_guard2, vcG2_bool, vcG2_und, vcGB_TT, vcGB_FF, vcGB_TF, vcGB_FT, vcGB_Tdec, vcGB_Fdec, vcOps_nil, vcOps_cons, vcOut, KCall_ret, KCall_pan, skipF_nil, skipF_cons, Qseq_normal, Qseq_ret, Qseq_exit, Qseq_pan, Qblk_normal, Qblk_exit, Qblk_ret, Qblk_pan, Qpan_eq, Qcut_normal, Qcut_exit, Qcut_ret, Qcut_pan, Qloop_normal, Qloop_exit, Qloop_ret, Qloop_pan,
    stepOp, ev, upd_apply, putF, cellsOf, deref, faddrV, mk, abin, abinI, abinS, ibits, aeqb, aun, fldV, idxOf, elems, isPtr, putRef, splice, fillA, rowsA, minV, peqV, elemsA, rowBytes, strOf, Store.get_push, Store.get_set, Store.n_push, Store.n_set,
    Option.map_some, Option.map_none, reduceIte, Nat.reduceEqDiff, Nat.reduceAdd, Nat.reduceLeDiff, Nat.reduceLT, Nat.zero_add, Nat.add_zero, Nat.add_assoc, Nat.add_left_cancel_iff, Nat.left_eq_add, Nat.add_eq_left, Nat.lt_irrefl, Nat.le_refl,
    List.drop_zero, List.drop_succ_cons, List.take_succ_cons, List.take_zero, List.headD_cons, List.length_cons, List.length_nil, List.getElem?_cons_zero, List.getElem?_cons_succ, List.set_cons_zero, List.set_cons_succ, List.map_cons, List.map_nil,
    Bool.not_true, Bool.not_false, Bool.false_eq_true, Bool.true_eq_false, Bool.not_eq_true', Bool.not_eq_false', eq_self, false_imp_iff, true_imp_iff, and_true, true_and, and_false, false_and, or_true, true_or, initFr, fr0_at, Qend, resL, resV1, pack,
    decide_eq_true_eq, decide_eq_false_iff_not, Int.toNat_natCast, Option.some.injEq, exists_eq_left', vc_cond2, vcC2_bool, vcCB_T, vcCB_F, vcCB_dec, decide_true, decide_false]
    exact fun _ => hx

theorem tm32 (n : Nat) : (n : Int).tmod 32 = ((n % 32 : Nat) : Int) := u8m n 32
theorem c60 (b : List UInt8) : Pure prog 60 [.str b] (encH (rheadS b)) := by
  refine Pure.of (fun _ _ => by simp only [encH, nm, nmL, and_self]) fun S => acalls_of_vc low60 (by simp) ?_
  have hx := Ext.refl S
  have hz : Int.toNat 0 = 0 := rfl
  have hz1 : Int.toNat 1 = 1 := rfl
  have hc1 : ((1 : Nat) : Int) = 1 := rfl
  have hc0 : ((0 : Nat) : Int) = 0 := rfl
  have g01 : (0 : Int) < 1 := by decide
  have g11 : ¬ (1 : Int) < 1 := by decide
  have g12 : (1 : Int) < 2 := by decide
  have h320 : ¬ (32 : Int) = 0 := by decide
  match b with
  | [] =>
    simp -implicitDefEqProofs only [B60, hc0, g01, vc_region, vc_quiet, vcD_nil, vcD_val2, vcDO_val, vcDO_asks, vcD_eff, vcD_guard2, vcDG_TT, vcDG_FF, vcDG_TF, vcDG_FT, vcDG_und, vcDG_Tdec, vcDG_Fdec, vcDEff, saysAll, pendAll, pendNext, addPend, Says, vc_bad, vc_seq, vc_ret, vc_skip, vc_block, vc_exit, vcGrps_nil, vcGrps_cons, vcGrps_guard2, vcG2_bool, vcG2_und, vcGB_TT, vcGB_FF, vcGB_TF, vcGB_FT, vcGB_Tdec, vcGB_Fdec, vcOps_nil, vcOps_cons, vcOut, KCall_ret, KCall_pan, skipF_nil, skipF_cons, Qseq_normal, Qseq_ret, Qseq_exit, Qseq_pan, Qblk_normal, Qblk_exit, Qblk_ret, Qblk_pan, Qpan_eq, Qcut_normal, Qcut_exit, Qcut_ret, Qcut_pan, Qloop_normal, Qloop_exit, Qloop_ret, Qloop_pan,
    stepOp, ev, upd_apply, putF, cellsOf, deref, faddrV, mk, abin, abinI, abinS, ibits, aeqb, aun, fldV, idxOf, elems, isPtr, putRef, splice, fillA, rowsA, minV, peqV, elemsA, rowBytes, strOf, Store.get_push, Store.get_set, Store.n_push, Store.n_set,
    Option.map_some, Option.map_none, reduceIte, Nat.reduceEqDiff, Nat.reduceAdd, Nat.reduceLeDiff, Nat.reduceLT, Nat.zero_add, Nat.add_zero, Nat.add_assoc, Nat.add_left_cancel_iff, Nat.left_eq_add, Nat.add_eq_left, Nat.lt_irrefl, Nat.le_refl,
    List.drop_zero, List.drop_succ_cons, List.take_succ_cons, List.take_zero, List.headD_cons, List.length_cons, List.length_nil, List.getElem?_cons_zero, List.getElem?_cons_succ, List.set_cons_zero, List.set_cons_succ, List.map_cons, List.map_nil,
    Bool.not_true, Bool.not_false, Bool.false_eq_true, Bool.true_eq_false, Bool.not_eq_true', Bool.not_eq_false', eq_self, false_imp_iff, true_imp_iff, and_true, true_and, and_false, false_and, or_true, true_or, initFr, fr0_at, Qend, resL, resV1, pack,
    decide_eq_true_eq, decide_eq_false_iff_not, Int.toNat_natCast, Option.some.injEq, exists_eq_left', vc_cond2, vcC2_bool, vcCB_T, vcCB_F, vcCB_dec, decide_true, decide_false]
    exact fun _ => ⟨rfl, hx⟩
  | [c] =>
    have h0 : (0 : Int) ≤ 0 := by decide
    have hm := tm32 c.toNat
    by_cases h31 : c.toNat % 32 = 31
    · have hg : ((c.toNat % 32 : Nat) : Int) = 31 := by omega
      simp -implicitDefEqProofs only [B60, hc1, g11, h0, hz, h320, hm, hg, vc_region, vc_quiet, vcD_nil, vcD_val2, vcDO_val, vcDO_asks, vcD_eff, vcD_guard2, vcDG_TT, vcDG_FF, vcDG_TF, vcDG_FT, vcDG_und, vcDG_Tdec, vcDG_Fdec, vcDEff, saysAll, pendAll, pendNext, addPend, Says, vc_bad, vc_seq, vc_ret, vc_skip, vc_block, vc_exit, vcGrps_nil, vcGrps_cons, vcGrps_guard2, vcG2_bool, vcG2_und, vcGB_TT, vcGB_FF, vcGB_TF, vcGB_FT, vcGB_Tdec, vcGB_Fdec, vcOps_nil, vcOps_cons, vcOut, KCall_ret, KCall_pan, skipF_nil, skipF_cons, Qseq_normal, Qseq_ret, Qseq_exit, Qseq_pan, Qblk_normal, Qblk_exit, Qblk_ret, Qblk_pan, Qpan_eq, Qcut_normal, Qcut_exit, Qcut_ret, Qcut_pan, Qloop_normal, Qloop_exit, Qloop_ret, Qloop_pan,
    stepOp, ev, upd_apply, putF, cellsOf, deref, faddrV, mk, abin, abinI, abinS, ibits, aeqb, aun, fldV, idxOf, elems, isPtr, putRef, splice, fillA, rowsA, minV, peqV, elemsA, rowBytes, strOf, Store.get_push, Store.get_set, Store.n_push, Store.n_set,
    Option.map_some, Option.map_none, reduceIte, Nat.reduceEqDiff, Nat.reduceAdd, Nat.reduceLeDiff, Nat.reduceLT, Nat.zero_add, Nat.add_zero, Nat.add_assoc, Nat.add_left_cancel_iff, Nat.left_eq_add, Nat.add_eq_left, Nat.lt_irrefl, Nat.le_refl,
    List.drop_zero, List.drop_succ_cons, List.take_succ_cons, List.take_zero, List.headD_cons, List.length_cons, List.length_nil, List.getElem?_cons_zero, List.getElem?_cons_succ, List.set_cons_zero, List.set_cons_succ, List.map_cons, List.map_nil,
    Bool.not_true, Bool.not_false, Bool.false_eq_true, Bool.true_eq_false, Bool.not_eq_true', Bool.not_eq_false', eq_self, false_imp_iff, true_imp_iff, and_true, true_and, and_false, false_and, or_true, true_or, initFr, fr0_at, Qend, resL, resV1, pack,
    decide_eq_true_eq, decide_eq_false_iff_not, Int.toNat_natCast, Option.some.injEq, exists_eq_left', vc_cond2, vcC2_bool, vcCB_T, vcCB_F, vcCB_dec, decide_true, decide_false]
      intro _
      exact ⟨by simp [rheadS, h31, encH], hx⟩
    · have hg : ¬ ((c.toNat % 32 : Nat) : Int) = 31 := by omega
      simp -implicitDefEqProofs only [B60, hc1, g11, g12, h0, hz, h320, hm, hg, vc_region, vc_quiet, vcD_nil, vcD_val2, vcDO_val, vcDO_asks, vcD_eff, vcD_guard2, vcDG_TT, vcDG_FF, vcDG_TF, vcDG_FT, vcDG_und, vcDG_Tdec, vcDG_Fdec, vcDEff, saysAll, pendAll, pendNext, addPend, Says, vc_bad, vc_seq, vc_ret, vc_skip, vc_block, vc_exit, vcGrps_nil, vcGrps_cons, vcGrps_guard2, vcG2_bool, vcG2_und, vcGB_TT, vcGB_FF, vcGB_TF, vcGB_FT, vcGB_Tdec, vcGB_Fdec, vcOps_nil, vcOps_cons, vcOut, KCall_ret, KCall_pan, skipF_nil, skipF_cons, Qseq_normal, Qseq_ret, Qseq_exit, Qseq_pan, Qblk_normal, Qblk_exit, Qblk_ret, Qblk_pan, Qpan_eq, Qcut_normal, Qcut_exit, Qcut_ret, Qcut_pan, Qloop_normal, Qloop_exit, Qloop_ret, Qloop_pan,
    stepOp, ev, upd_apply, putF, cellsOf, deref, faddrV, mk, abin, abinI, abinS, ibits, aeqb, aun, fldV, idxOf, elems, isPtr, putRef, splice, fillA, rowsA, minV, peqV, elemsA, rowBytes, strOf, Store.get_push, Store.get_set, Store.n_push, Store.n_set,
    Option.map_some, Option.map_none, reduceIte, Nat.reduceEqDiff, Nat.reduceAdd, Nat.reduceLeDiff, Nat.reduceLT, Nat.zero_add, Nat.add_zero, Nat.add_assoc, Nat.add_left_cancel_iff, Nat.left_eq_add, Nat.add_eq_left, Nat.lt_irrefl, Nat.le_refl,
    List.drop_zero, List.drop_succ_cons, List.take_succ_cons, List.take_zero, List.headD_cons, List.length_cons, List.length_nil, List.getElem?_cons_zero, List.getElem?_cons_succ, List.set_cons_zero, List.set_cons_succ, List.map_cons, List.map_nil,
    Bool.not_true, Bool.not_false, Bool.false_eq_true, Bool.true_eq_false, Bool.not_eq_true', Bool.not_eq_false', eq_self, false_imp_iff, true_imp_iff, and_true, true_and, and_false, false_and, or_true, true_or, initFr, fr0_at, Qend, resL, resV1, pack,
    decide_eq_true_eq, decide_eq_false_iff_not, Int.toNat_natCast, Option.some.injEq, exists_eq_left', vc_cond2, vcC2_bool, vcCB_T, vcCB_F, vcCB_dec, decide_true, decide_false]
      intro _ _
      exact ⟨by simp [rheadS, h31, encH], hx⟩
  | c :: d :: r =>
    have h0 : (0 : Int) ≤ 0 := by decide
    have h01 : (0 : Int) ≤ 1 := by decide
    have hm := tm32 c.toNat
    have hl0 : ¬ ((r.length + (1 + 1) : Nat) : Int) < 1 := by omega
    have hl0' : ¬ ((r.length + 2 : Nat) : Int) < 1 := by omega
    have hl1 : ¬ ((r.length + (1 + 1) : Nat) : Int) < 2 := by omega
    have hl1' : ¬ ((r.length + 2 : Nat) : Int) < 2 := by omega
    by_cases h31 : c.toNat % 32 = 31
    · have hg : ((c.toNat % 32 : Nat) : Int) = 31 := by omega
      simp -implicitDefEqProofs only [B60, hl0, hl0', h0, hz, h320, hm, hg, vc_region, vc_quiet, vcD_nil, vcD_val2, vcDO_val, vcDO_asks, vcD_eff, vcD_guard2, vcDG_TT, vcDG_FF, vcDG_TF, vcDG_FT, vcDG_und, vcDG_Tdec, vcDG_Fdec, vcDEff, saysAll, pendAll, pendNext, addPend, Says, vc_bad, vc_seq, vc_ret, vc_skip, vc_block, vc_exit, vcGrps_nil, vcGrps_cons, vcGrps_guard2, vcG2_bool, vcG2_und, vcGB_TT, vcGB_FF, vcGB_TF, vcGB_FT, vcGB_Tdec, vcGB_Fdec, vcOps_nil, vcOps_cons, vcOut, KCall_ret, KCall_pan, skipF_nil, skipF_cons, Qseq_normal, Qseq_ret, Qseq_exit, Qseq_pan, Qblk_normal, Qblk_exit, Qblk_ret, Qblk_pan, Qpan_eq, Qcut_normal, Qcut_exit, Qcut_ret, Qcut_pan, Qloop_normal, Qloop_exit, Qloop_ret, Qloop_pan,
    stepOp, ev, upd_apply, putF, cellsOf, deref, faddrV, mk, abin, abinI, abinS, ibits, aeqb, aun, fldV, idxOf, elems, isPtr, putRef, splice, fillA, rowsA, minV, peqV, elemsA, rowBytes, strOf, Store.get_push, Store.get_set, Store.n_push, Store.n_set,
    Option.map_some, Option.map_none, reduceIte, Nat.reduceEqDiff, Nat.reduceAdd, Nat.reduceLeDiff, Nat.reduceLT, Nat.zero_add, Nat.add_zero, Nat.add_assoc, Nat.add_left_cancel_iff, Nat.left_eq_add, Nat.add_eq_left, Nat.lt_irrefl, Nat.le_refl,
    List.drop_zero, List.drop_succ_cons, List.take_succ_cons, List.take_zero, List.headD_cons, List.length_cons, List.length_nil, List.getElem?_cons_zero, List.getElem?_cons_succ, List.set_cons_zero, List.set_cons_succ, List.map_cons, List.map_nil,
    Bool.not_true, Bool.not_false, Bool.false_eq_true, Bool.true_eq_false, Bool.not_eq_true', Bool.not_eq_false', eq_self, false_imp_iff, true_imp_iff, and_true, true_and, and_false, false_and, or_true, true_or, initFr, fr0_at, Qend, resL, resV1, pack,
    decide_eq_true_eq, decide_eq_false_iff_not, Int.toNat_natCast, Option.some.injEq, exists_eq_left', vc_cond2, vcC2_bool, vcCB_T, vcCB_F, vcCB_dec, decide_true, decide_false]
      intro _
      exact ⟨by simp [rheadS, h31, encH], hx⟩
    have hg : ¬ ((c.toNat % 32 : Nat) : Int) = 31 := by omega
    have hwd : IntKind.i64.wrap (d.toNat : Int) = d.toNat := w64 _ (by omega) (by have := d.toNat_lt; omega)
    by_cases hd : d.toNat < 128
    · have hd' : (d.toNat : Int) < 128 := by omega
      simp -implicitDefEqProofs only [B60, hl0, hl0', hl1, hl1', h0, h01, hz, hz1, h320, hm, hg, hd', hwd, saysAll, addPend, vc_region, vc_quiet, vcD_nil, vcD_val2, vcDO_val, vcDO_asks, vcD_eff, vcD_guard2, vcDG_TT, vcDG_FF, vcDG_TF, vcDG_FT, vcDG_und, vcDG_Tdec, vcDG_Fdec, vcDEff, saysAll, pendAll, pendNext, addPend, Says, vc_bad, vc_seq, vc_ret, vc_skip, vc_block, vc_exit, vcGrps_nil, vcGrps_cons, vcGrps_guard2, vcG2_bool, vcG2_und, vcGB_TT, vcGB_FF, vcGB_TF, vcGB_FT, vcGB_Tdec, vcGB_Fdec, vcOps_nil, vcOps_cons, vcOut, KCall_ret, KCall_pan, skipF_nil, skipF_cons, Qseq_normal, Qseq_ret, Qseq_exit, Qseq_pan, Qblk_normal, Qblk_exit, Qblk_ret, Qblk_pan, Qpan_eq, Qcut_normal, Qcut_exit, Qcut_ret, Qcut_pan, Qloop_normal, Qloop_exit, Qloop_ret, Qloop_pan,
    stepOp, ev, upd_apply, putF, cellsOf, deref, faddrV, mk, abin, abinI, abinS, ibits, aeqb, aun, fldV, idxOf, elems, isPtr, putRef, splice, fillA, rowsA, minV, peqV, elemsA, rowBytes, strOf, Store.get_push, Store.get_set, Store.n_push, Store.n_set,
    Option.map_some, Option.map_none, reduceIte, Nat.reduceEqDiff, Nat.reduceAdd, Nat.reduceLeDiff, Nat.reduceLT, Nat.zero_add, Nat.add_zero, Nat.add_assoc, Nat.add_left_cancel_iff, Nat.left_eq_add, Nat.add_eq_left, Nat.lt_irrefl, Nat.le_refl,
    List.drop_zero, List.drop_succ_cons, List.take_succ_cons, List.take_zero, List.headD_cons, List.length_cons, List.length_nil, List.getElem?_cons_zero, List.getElem?_cons_succ, List.set_cons_zero, List.set_cons_succ, List.map_cons, List.map_nil,
    Bool.not_true, Bool.not_false, Bool.false_eq_true, Bool.true_eq_false, Bool.not_eq_true', Bool.not_eq_false', eq_self, false_imp_iff, true_imp_iff, and_true, true_and, and_false, false_and, or_true, true_or, initFr, fr0_at, Qend, resL, resV1, pack,
    decide_eq_true_eq, decide_eq_false_iff_not, Int.toNat_natCast, Option.some.injEq, exists_eq_left', vc_cond2, vcC2_bool, vcCB_T, vcCB_F, vcCB_dec, decide_true, decide_false]
      intro _ _
      refine ⟨?_, hx⟩
      rw [rheadS, if_neg h31, if_pos hd]; rfl
    have hd' : ¬ (d.toNat : Int) < 128 := by omega
    obtain ⟨n, hn⟩ : ∃ n, n = d.toNat - 128 := ⟨_, rfl⟩
    have hdl := d.toNat_lt
    have hws : IntKind.i64.wrap ((d.toNat : Int) - 128) = (n : Nat) := by rw [w64 _ (by omega) (by omega)]; omega
    have hw2 : IntKind.i64.wrap (2 + (n : Int)) = ((2 + n : Nat) : Int) := by rw [w64 _ (by omega) (by omega)]; omega
    by_cases hn1 : d.toNat < 129 ∨ d.toNat > 132
    · have hr : rheadS (c :: d :: r) = (0, 0, 22) := by rw [rheadS, if_neg h31, if_neg hd, if_pos hn1]
      rw [hr]
      by_cases hn0 : (n : Int) < 1
      · simp -implicitDefEqProofs only [B60, hl0, hl0', hl1, hl1', h0, h01, hz, hz1, h320, hm, hg, hd', hwd, hws, hn0, vc_region, vc_quiet, vcD_nil, vcD_val2, vcDO_val, vcDO_asks, vcD_eff, vcD_guard2, vcDG_TT, vcDG_FF, vcDG_TF, vcDG_FT, vcDG_und, vcDG_Tdec, vcDG_Fdec, vcDEff, saysAll, pendAll, pendNext, addPend, Says, vc_bad, vc_seq, vc_ret, vc_skip, vc_block, vc_exit, vcGrps_nil, vcGrps_cons, vcGrps_guard2, vcG2_bool, vcG2_und, vcGB_TT, vcGB_FF, vcGB_TF, vcGB_FT, vcGB_Tdec, vcGB_Fdec, vcOps_nil, vcOps_cons, vcOut, KCall_ret, KCall_pan, skipF_nil, skipF_cons, Qseq_normal, Qseq_ret, Qseq_exit, Qseq_pan, Qblk_normal, Qblk_exit, Qblk_ret, Qblk_pan, Qpan_eq, Qcut_normal, Qcut_exit, Qcut_ret, Qcut_pan, Qloop_normal, Qloop_exit, Qloop_ret, Qloop_pan,
    stepOp, ev, upd_apply, putF, cellsOf, deref, faddrV, mk, abin, abinI, abinS, ibits, aeqb, aun, fldV, idxOf, elems, isPtr, putRef, splice, fillA, rowsA, minV, peqV, elemsA, rowBytes, strOf, Store.get_push, Store.get_set, Store.n_push, Store.n_set,
    Option.map_some, Option.map_none, reduceIte, Nat.reduceEqDiff, Nat.reduceAdd, Nat.reduceLeDiff, Nat.reduceLT, Nat.zero_add, Nat.add_zero, Nat.add_assoc, Nat.add_left_cancel_iff, Nat.left_eq_add, Nat.add_eq_left, Nat.lt_irrefl, Nat.le_refl,
    List.drop_zero, List.drop_succ_cons, List.take_succ_cons, List.take_zero, List.headD_cons, List.length_cons, List.length_nil, List.getElem?_cons_zero, List.getElem?_cons_succ, List.set_cons_zero, List.set_cons_succ, List.map_cons, List.map_nil,
    Bool.not_true, Bool.not_false, Bool.false_eq_true, Bool.true_eq_false, Bool.not_eq_true', Bool.not_eq_false', eq_self, false_imp_iff, true_imp_iff, and_true, true_and, and_false, false_and, or_true, true_or, initFr, fr0_at, Qend, resL, resV1, pack,
    decide_eq_true_eq, decide_eq_false_iff_not, Int.toNat_natCast, Option.some.injEq, exists_eq_left', vc_cond2, vcC2_bool, vcCB_T, vcCB_F, vcCB_dec, decide_true, decide_false]
        intro _ _
        exact ⟨rfl, hx⟩
      · have hn4 : (n : Int) > 4 := by omega
        simp -implicitDefEqProofs only [B60, hl0, hl0', hl1, hl1', h0, h01, hz, hz1, h320, hm, hg, hd', hwd, hws, hn0, hn4, vc_region, vc_quiet, vcD_nil, vcD_val2, vcDO_val, vcDO_asks, vcD_eff, vcD_guard2, vcDG_TT, vcDG_FF, vcDG_TF, vcDG_FT, vcDG_und, vcDG_Tdec, vcDG_Fdec, vcDEff, saysAll, pendAll, pendNext, addPend, Says, vc_bad, vc_seq, vc_ret, vc_skip, vc_block, vc_exit, vcGrps_nil, vcGrps_cons, vcGrps_guard2, vcG2_bool, vcG2_und, vcGB_TT, vcGB_FF, vcGB_TF, vcGB_FT, vcGB_Tdec, vcGB_Fdec, vcOps_nil, vcOps_cons, vcOut, KCall_ret, KCall_pan, skipF_nil, skipF_cons, Qseq_normal, Qseq_ret, Qseq_exit, Qseq_pan, Qblk_normal, Qblk_exit, Qblk_ret, Qblk_pan, Qpan_eq, Qcut_normal, Qcut_exit, Qcut_ret, Qcut_pan, Qloop_normal, Qloop_exit, Qloop_ret, Qloop_pan,
    stepOp, ev, upd_apply, putF, cellsOf, deref, faddrV, mk, abin, abinI, abinS, ibits, aeqb, aun, fldV, idxOf, elems, isPtr, putRef, splice, fillA, rowsA, minV, peqV, elemsA, rowBytes, strOf, Store.get_push, Store.get_set, Store.n_push, Store.n_set,
    Option.map_some, Option.map_none, reduceIte, Nat.reduceEqDiff, Nat.reduceAdd, Nat.reduceLeDiff, Nat.reduceLT, Nat.zero_add, Nat.add_zero, Nat.add_assoc, Nat.add_left_cancel_iff, Nat.left_eq_add, Nat.add_eq_left, Nat.lt_irrefl, Nat.le_refl,
    List.drop_zero, List.drop_succ_cons, List.take_succ_cons, List.take_zero, List.headD_cons, List.length_cons, List.length_nil, List.getElem?_cons_zero, List.getElem?_cons_succ, List.set_cons_zero, List.set_cons_succ, List.map_cons, List.map_nil,
    Bool.not_true, Bool.not_false, Bool.false_eq_true, Bool.true_eq_false, Bool.not_eq_true', Bool.not_eq_false', eq_self, false_imp_iff, true_imp_iff, and_true, true_and, and_false, false_and, or_true, true_or, initFr, fr0_at, Qend, resL, resV1, pack,
    decide_eq_true_eq, decide_eq_false_iff_not, Int.toNat_natCast, Option.some.injEq, exists_eq_left', vc_cond2, vcC2_bool, vcCB_T, vcCB_F, vcCB_dec, decide_true, decide_false]
        intro _ _
        exact ⟨rfl, hx⟩
    have hn0 : ¬ (n : Int) < 1 := by omega
    have hn4 : ¬ (n : Int) > 4 := by omega
    by_cases hrl : r.length < n
    · have hr : rheadS (c :: d :: r) = (0, 0, 20) := by rw [rheadS, if_neg h31, if_neg hd, if_neg hn1, if_pos (by omega)]
      rw [hr]
      have hl2 : ((r.length + (1 + 1) : Nat) : Int) < ((2 + n : Nat) : Int) := by omega
      have hl2' : ((r.length + 2 : Nat) : Int) < ((2 + n : Nat) : Int) := by omega
      simp -implicitDefEqProofs only [B60, hl0, hl0', hl1, hl1', h0, h01, hz, hz1, h320, hm, hg, hd', hwd, hws, hn0, hn4, hw2, hl2, hl2', vc_region, vc_quiet, vcD_nil, vcD_val2, vcDO_val, vcDO_asks, vcD_eff, vcD_guard2, vcDG_TT, vcDG_FF, vcDG_TF, vcDG_FT, vcDG_und, vcDG_Tdec, vcDG_Fdec, vcDEff, saysAll, pendAll, pendNext, addPend, Says, vc_bad, vc_seq, vc_ret, vc_skip, vc_block, vc_exit, vcGrps_nil, vcGrps_cons, vcGrps_guard2, vcG2_bool, vcG2_und, vcGB_TT, vcGB_FF, vcGB_TF, vcGB_FT, vcGB_Tdec, vcGB_Fdec, vcOps_nil, vcOps_cons, vcOut, KCall_ret, KCall_pan, skipF_nil, skipF_cons, Qseq_normal, Qseq_ret, Qseq_exit, Qseq_pan, Qblk_normal, Qblk_exit, Qblk_ret, Qblk_pan, Qpan_eq, Qcut_normal, Qcut_exit, Qcut_ret, Qcut_pan, Qloop_normal, Qloop_exit, Qloop_ret, Qloop_pan,
    stepOp, ev, upd_apply, putF, cellsOf, deref, faddrV, mk, abin, abinI, abinS, ibits, aeqb, aun, fldV, idxOf, elems, isPtr, putRef, splice, fillA, rowsA, minV, peqV, elemsA, rowBytes, strOf, Store.get_push, Store.get_set, Store.n_push, Store.n_set,
    Option.map_some, Option.map_none, reduceIte, Nat.reduceEqDiff, Nat.reduceAdd, Nat.reduceLeDiff, Nat.reduceLT, Nat.zero_add, Nat.add_zero, Nat.add_assoc, Nat.add_left_cancel_iff, Nat.left_eq_add, Nat.add_eq_left, Nat.lt_irrefl, Nat.le_refl,
    List.drop_zero, List.drop_succ_cons, List.take_succ_cons, List.take_zero, List.headD_cons, List.length_cons, List.length_nil, List.getElem?_cons_zero, List.getElem?_cons_succ, List.set_cons_zero, List.set_cons_succ, List.map_cons, List.map_nil,
    Bool.not_true, Bool.not_false, Bool.false_eq_true, Bool.true_eq_false, Bool.not_eq_true', Bool.not_eq_false', eq_self, false_imp_iff, true_imp_iff, and_true, true_and, and_false, false_and, or_true, true_or, initFr, fr0_at, Qend, resL, resV1, pack,
    decide_eq_true_eq, decide_eq_false_iff_not, Int.toNat_natCast, Option.some.injEq, exists_eq_left', vc_cond2, vcC2_bool, vcCB_T, vcCB_F, vcCB_dec, decide_true, decide_false]
      intro _ _ _
      exact ⟨rfl, hx⟩
    have hr : rheadS (c :: d :: r) = (2 + n, getS (r.take n), 0) := by rw [rheadS, if_neg h31, if_neg hd, if_neg hn1, if_neg (by omega), ← hn]
    have hl2 : ¬ ((r.length + (1 + 1) : Nat) : Int) < ((2 + n : Nat) : Int) := by omega
    have hl2' : ¬ ((r.length + 2 : Nat) : Int) < ((2 + n : Nat) : Int) := by omega
    have hlo : (0 : Int) ≤ 2 := by decide
    have hhi : (0 : Int) ≤ ((2 + n : Nat) : Int) := by omega
    have ht2 : Int.toNat 2 = 2 := rfl
    have hle1 : 2 ≤ 2 + n := by omega
    have hle2 : 2 + n ≤ r.length + (1 + 1) := by omega
    have hle2' : 2 + n ≤ r.length + 2 := by omega
    have hsl : List.drop 2 (List.take (2 + n) (c :: d :: r)) = r.take n := by
      rw [show 2 + n = n + 1 + 1 by omega]; rfl
    simp -implicitDefEqProofs only [B60, hl0, hl0', hl1, hl1', h0, h01, hz, hz1, h320, hm, hg, hd', hwd, hws, hn0, hn4, hw2, hl2, hl2', hlo, hhi, ht2, hle1, hle2, hle2', hsl, vc_region, vc_quiet, vcD_nil, vcD_val2, vcDO_val, vcDO_asks, vcD_eff, vcD_guard2, vcDG_TT, vcDG_FF, vcDG_TF, vcDG_FT, vcDG_und, vcDG_Tdec, vcDG_Fdec, vcDEff, saysAll, pendAll, pendNext, addPend, Says, vc_bad, vc_seq, vc_ret, vc_skip, vc_block, vc_exit, vcGrps_nil, vcGrps_cons, vcGrps_guard2, vcG2_bool, vcG2_und, vcGB_TT, vcGB_FF, vcGB_TF, vcGB_FT, vcGB_Tdec, vcGB_Fdec, vcOps_nil, vcOps_cons, vcOut, KCall_ret, KCall_pan, skipF_nil, skipF_cons, Qseq_normal, Qseq_ret, Qseq_exit, Qseq_pan, Qblk_normal, Qblk_exit, Qblk_ret, Qblk_pan, Qpan_eq, Qcut_normal, Qcut_exit, Qcut_ret, Qcut_pan, Qloop_normal, Qloop_exit, Qloop_ret, Qloop_pan,
    stepOp, ev, upd_apply, putF, cellsOf, deref, faddrV, mk, abin, abinI, abinS, ibits, aeqb, aun, fldV, idxOf, elems, isPtr, putRef, splice, fillA, rowsA, minV, peqV, elemsA, rowBytes, strOf, Store.get_push, Store.get_set, Store.n_push, Store.n_set,
    Option.map_some, Option.map_none, reduceIte, Nat.reduceEqDiff, Nat.reduceAdd, Nat.reduceLeDiff, Nat.reduceLT, Nat.zero_add, Nat.add_zero, Nat.add_assoc, Nat.add_left_cancel_iff, Nat.left_eq_add, Nat.add_eq_left, Nat.lt_irrefl, Nat.le_refl,
    List.drop_zero, List.drop_succ_cons, List.take_succ_cons, List.take_zero, List.headD_cons, List.length_cons, List.length_nil, List.getElem?_cons_zero, List.getElem?_cons_succ, List.set_cons_zero, List.set_cons_succ, List.map_cons, List.map_nil,
    Bool.not_true, Bool.not_false, Bool.false_eq_true, Bool.true_eq_false, Bool.not_eq_true', Bool.not_eq_false', eq_self, false_imp_iff, true_imp_iff, and_true, true_and, and_false, false_and, or_true, true_or, initFr, fr0_at, Qend, resL, resV1, pack,
    decide_eq_true_eq, decide_eq_false_iff_not, Int.toNat_natCast, Option.some.injEq, exists_eq_left', vc_cond2, vcC2_bool, vcCB_T, vcCB_F, vcCB_dec, decide_true, decide_false]
    intro _ _ _
    have htl : (r.take n).length = n := by rw [List.length_take]; omega
    refine (c68 (r.take n) (by omega) (by omega)).use ?_
    rw [hr]
    simp -implicitDefEqProofs only [hw2, vc_region, vc_quiet, vcD_nil, vcD_val2, vcDO_val, vcDO_asks, vcD_eff, vcD_guard2, vcDG_TT, vcDG_FF, vcDG_TF, vcDG_FT, vcDG_und, vcDG_Tdec, vcDG_Fdec, vcDEff, saysAll, pendAll, pendNext, addPend, Says, vc_bad, vc_seq, vc_ret, vc_skip, vc_block, vc_exit, vcGrps_nil, vcGrps_cons, vcGrps_guard2, vcG2_bool, vcG2_und, vcGB_TT, vcGB_FF, vcGB_TF, vcGB_FT, vcGB_Tdec, vcGB_Fdec, vcOps_nil, vcOps_cons, vcOut, KCall_ret, KCall_pan, skipF_nil, skipF_cons, Qseq_normal, Qseq_ret, Qseq_exit, Qseq_pan, Qblk_normal, Qblk_exit, Qblk_ret, Qblk_pan, Qpan_eq, Qcut_normal, Qcut_exit, Qcut_ret, Qcut_pan, Qloop_normal, Qloop_exit, Qloop_ret, Qloop_pan,
    stepOp, ev, upd_apply, putF, cellsOf, deref, faddrV, mk, abin, abinI, abinS, ibits, aeqb, aun, fldV, idxOf, elems, isPtr, putRef, splice, fillA, rowsA, minV, peqV, elemsA, rowBytes, strOf, Store.get_push, Store.get_set, Store.n_push, Store.n_set,
    Option.map_some, Option.map_none, reduceIte, Nat.reduceEqDiff, Nat.reduceAdd, Nat.reduceLeDiff, Nat.reduceLT, Nat.zero_add, Nat.add_zero, Nat.add_assoc, Nat.add_left_cancel_iff, Nat.left_eq_add, Nat.add_eq_left, Nat.lt_irrefl, Nat.le_refl,
    List.drop_zero, List.drop_succ_cons, List.take_succ_cons, List.take_zero, List.headD_cons, List.length_cons, List.length_nil, List.getElem?_cons_zero, List.getElem?_cons_succ, List.set_cons_zero, List.set_cons_succ, List.map_cons, List.map_nil,
    Bool.not_true, Bool.not_false, Bool.false_eq_true, Bool.true_eq_false, Bool.not_eq_true', Bool.not_eq_false', eq_self, false_imp_iff, true_imp_iff, and_true, true_and, and_false, false_and, or_true, true_or, initFr, fr0_at, Qend, resL, resV1, pack,
    decide_eq_true_eq, decide_eq_false_iff_not, Int.toNat_natCast, Option.some.injEq, exists_eq_left', vc_cond2, vcC2_bool, vcCB_T, vcCB_F, vcCB_dec, decide_true, decide_false]
    exact ⟨rfl, hx⟩

theorem headS_eq (b : List UInt8) : (headS b).2.2 = 0 → headS b = rheadS b ∧ (rheadS b).1 + (rheadS b).2.1 ≤ 65536 := by
  unfold headS
  split
  · intro h; cases h
  · intro _; exact ⟨rfl, by omega⟩
theorem c39 (b : List UInt8) : Pure prog 39 [.str b] (.tup [.int .i64 ((frameS b).1 : Nat), .int .i64 ((frameS b).2 : Nat)]) := by
  refine Pure.of (fun _ _ => by simp only [nm, nmL, and_self]) fun S => acalls_of_vc low39 (by simp) ?_
  have hx := Ext.refl S
  obtain ⟨h1, h2, h3, h4⟩ := rheadS_lt b
  simp -implicitDefEqProofs only [B39, vc_region, vc_quiet, vcD_nil, vcD_val2, vcDO_val, vcDO_asks, vcD_eff, vcD_guard2, vcDG_TT, vcDG_FF, vcDG_TF, vcDG_FT, vcDG_und, vcDG_Tdec, vcDG_Fdec, vcDEff, saysAll, pendAll, pendNext, addPend, Says, vc_bad, vc_seq, vc_ret, vc_skip, vc_block, vc_exit, vcGrps_nil, vcGrps_cons, vcGrps_guard2, vcG2_bool, vcG2_und, vcGB_TT, vcGB_FF, vcGB_TF, vcGB_FT, vcGB_Tdec, vcGB_Fdec, vcOps_nil, vcOps_cons, vcOut, KCall_ret, KCall_pan, skipF_nil, skipF_cons, Qseq_normal, Qseq_ret, Qseq_exit, Qseq_pan, Qblk_normal, Qblk_exit, Qblk_ret, Qblk_pan, Qpan_eq, Qcut_normal, Qcut_exit, Qcut_ret, Qcut_pan, Qloop_normal, Qloop_exit, Qloop_ret, Qloop_pan,
    stepOp, ev, upd_apply, putF, cellsOf, deref, faddrV, mk, abin, abinI, abinS, ibits, aeqb, aun, fldV, idxOf, elems, isPtr, putRef, splice, fillA, rowsA, minV, peqV, elemsA, rowBytes, strOf, Store.get_push, Store.get_set, Store.n_push, Store.n_set,
    Option.map_some, Option.map_none, reduceIte, Nat.reduceEqDiff, Nat.reduceAdd, Nat.reduceLeDiff, Nat.reduceLT, Nat.zero_add, Nat.add_zero, Nat.add_assoc, Nat.add_left_cancel_iff, Nat.left_eq_add, Nat.add_eq_left, Nat.lt_irrefl, Nat.le_refl,
    List.drop_zero, List.drop_succ_cons, List.take_succ_cons, List.take_zero, List.headD_cons, List.length_cons, List.length_nil, List.getElem?_cons_zero, List.getElem?_cons_succ, List.set_cons_zero, List.set_cons_succ, List.map_cons, List.map_nil,
    Bool.not_true, Bool.not_false, Bool.false_eq_true, Bool.true_eq_false, Bool.not_eq_true', Bool.not_eq_false', eq_self, false_imp_iff, true_imp_iff, and_true, true_and, and_false, false_and, or_true, true_or, initFr, fr0_at, Qend, resL, resV1, pack,
    decide_eq_true_eq, decide_eq_false_iff_not, Int.toNat_natCast, Option.some.injEq, exists_eq_left', vc_cond2, vcC2_bool, vcCB_T, vcCB_F, vcCB_dec, decide_true, decide_false]
  refine (c60 b).use ?_
  unfold frameS headS
  have hw : IntKind.i64.wrap (((rheadS b).1 : Int) + ((rheadS b).2.1 : Nat)) = (((rheadS b).1 + (rheadS b).2.1 : Nat) : Int) := by rw [w64 _ (by omega) (by omega)]; omega
  by_cases he : (rheadS b).2.2 = 0
  · have he' : (((rheadS b).2.2 : Nat) : Int) = 0 := by omega
    by_cases hl : (rheadS b).1 + (rheadS b).2.1 > 65536
    · have hl' : (((rheadS b).1 + (rheadS b).2.1 : Nat) : Int) > 65536 := by omega
      rw [if_pos hl]
      simp -implicitDefEqProofs only [encH, hw, he', hl', ne_eq, not_true, vc_region, vc_quiet, vcD_nil, vcD_val2, vcDO_val, vcDO_asks, vcD_eff, vcD_guard2, vcDG_TT, vcDG_FF, vcDG_TF, vcDG_FT, vcDG_und, vcDG_Tdec, vcDG_Fdec, vcDEff, saysAll, pendAll, pendNext, addPend, Says, vc_bad, vc_seq, vc_ret, vc_skip, vc_block, vc_exit, vcGrps_nil, vcGrps_cons, vcGrps_guard2, vcG2_bool, vcG2_und, vcGB_TT, vcGB_FF, vcGB_TF, vcGB_FT, vcGB_Tdec, vcGB_Fdec, vcOps_nil, vcOps_cons, vcOut, KCall_ret, KCall_pan, skipF_nil, skipF_cons, Qseq_normal, Qseq_ret, Qseq_exit, Qseq_pan, Qblk_normal, Qblk_exit, Qblk_ret, Qblk_pan, Qpan_eq, Qcut_normal, Qcut_exit, Qcut_ret, Qcut_pan, Qloop_normal, Qloop_exit, Qloop_ret, Qloop_pan,
    stepOp, ev, upd_apply, putF, cellsOf, deref, faddrV, mk, abin, abinI, abinS, ibits, aeqb, aun, fldV, idxOf, elems, isPtr, putRef, splice, fillA, rowsA, minV, peqV, elemsA, rowBytes, strOf, Store.get_push, Store.get_set, Store.n_push, Store.n_set,
    Option.map_some, Option.map_none, reduceIte, Nat.reduceEqDiff, Nat.reduceAdd, Nat.reduceLeDiff, Nat.reduceLT, Nat.zero_add, Nat.add_zero, Nat.add_assoc, Nat.add_left_cancel_iff, Nat.left_eq_add, Nat.add_eq_left, Nat.lt_irrefl, Nat.le_refl,
    List.drop_zero, List.drop_succ_cons, List.take_succ_cons, List.take_zero, List.headD_cons, List.length_cons, List.length_nil, List.getElem?_cons_zero, List.getElem?_cons_succ, List.set_cons_zero, List.set_cons_succ, List.map_cons, List.map_nil,
    Bool.not_true, Bool.not_false, Bool.false_eq_true, Bool.true_eq_false, Bool.not_eq_true', Bool.not_eq_false', eq_self, false_imp_iff, true_imp_iff, and_true, true_and, and_false, false_and, or_true, true_or, initFr, fr0_at, Qend, resL, resV1, pack,
    decide_eq_true_eq, decide_eq_false_iff_not, Int.toNat_natCast, Option.some.injEq, exists_eq_left', vc_cond2, vcC2_bool, vcCB_T, vcCB_F, vcCB_dec, decide_true, decide_false]
      exact ⟨rfl, hx⟩
    · have hl' : ¬ (((rheadS b).1 + (rheadS b).2.1 : Nat) : Int) > 65536 := by omega
      rw [if_neg hl, he]
      simp -implicitDefEqProofs only [encH, hw, he', hl', ne_eq, not_true, vc_region, vc_quiet, vcD_nil, vcD_val2, vcDO_val, vcDO_asks, vcD_eff, vcD_guard2, vcDG_TT, vcDG_FF, vcDG_TF, vcDG_FT, vcDG_und, vcDG_Tdec, vcDG_Fdec, vcDEff, saysAll, pendAll, pendNext, addPend, Says, vc_bad, vc_seq, vc_ret, vc_skip, vc_block, vc_exit, vcGrps_nil, vcGrps_cons, vcGrps_guard2, vcG2_bool, vcG2_und, vcGB_TT, vcGB_FF, vcGB_TF, vcGB_FT, vcGB_Tdec, vcGB_Fdec, vcOps_nil, vcOps_cons, vcOut, KCall_ret, KCall_pan, skipF_nil, skipF_cons, Qseq_normal, Qseq_ret, Qseq_exit, Qseq_pan, Qblk_normal, Qblk_exit, Qblk_ret, Qblk_pan, Qpan_eq, Qcut_normal, Qcut_exit, Qcut_ret, Qcut_pan, Qloop_normal, Qloop_exit, Qloop_ret, Qloop_pan,
    stepOp, ev, upd_apply, putF, cellsOf, deref, faddrV, mk, abin, abinI, abinS, ibits, aeqb, aun, fldV, idxOf, elems, isPtr, putRef, splice, fillA, rowsA, minV, peqV, elemsA, rowBytes, strOf, Store.get_push, Store.get_set, Store.n_push, Store.n_set,
    Option.map_some, Option.map_none, reduceIte, Nat.reduceEqDiff, Nat.reduceAdd, Nat.reduceLeDiff, Nat.reduceLT, Nat.zero_add, Nat.add_zero, Nat.add_assoc, Nat.add_left_cancel_iff, Nat.left_eq_add, Nat.add_eq_left, Nat.lt_irrefl, Nat.le_refl,
    List.drop_zero, List.drop_succ_cons, List.take_succ_cons, List.take_zero, List.headD_cons, List.length_cons, List.length_nil, List.getElem?_cons_zero, List.getElem?_cons_succ, List.set_cons_zero, List.set_cons_succ, List.map_cons, List.map_nil,
    Bool.not_true, Bool.not_false, Bool.false_eq_true, Bool.true_eq_false, Bool.not_eq_true', Bool.not_eq_false', eq_self, false_imp_iff, true_imp_iff, and_true, true_and, and_false, false_and, or_true, true_or, initFr, fr0_at, Qend, resL, resV1, pack,
    decide_eq_true_eq, decide_eq_false_iff_not, Int.toNat_natCast, Option.some.injEq, exists_eq_left', vc_cond2, vcC2_bool, vcCB_T, vcCB_F, vcCB_dec, decide_true, decide_false]
      exact ⟨rfl, hx⟩
  · have he' : ¬ (((rheadS b).2.2 : Nat) : Int) = 0 := by omega
    obtain ⟨e1, e2⟩ := h4 he
    rw [if_neg (by omega)]
    simp -implicitDefEqProofs only [encH, he', ne_eq, not_false_eq_true, vc_region, vc_quiet, vcD_nil, vcD_val2, vcDO_val, vcDO_asks, vcD_eff, vcD_guard2, vcDG_TT, vcDG_FF, vcDG_TF, vcDG_FT, vcDG_und, vcDG_Tdec, vcDG_Fdec, vcDEff, saysAll, pendAll, pendNext, addPend, Says, vc_bad, vc_seq, vc_ret, vc_skip, vc_block, vc_exit, vcGrps_nil, vcGrps_cons, vcGrps_guard2, vcG2_bool, vcG2_und, vcGB_TT, vcGB_FF, vcGB_TF, vcGB_FT, vcGB_Tdec, vcGB_Fdec, vcOps_nil, vcOps_cons, vcOut, KCall_ret, KCall_pan, skipF_nil, skipF_cons, Qseq_normal, Qseq_ret, Qseq_exit, Qseq_pan, Qblk_normal, Qblk_exit, Qblk_ret, Qblk_pan, Qpan_eq, Qcut_normal, Qcut_exit, Qcut_ret, Qcut_pan, Qloop_normal, Qloop_exit, Qloop_ret, Qloop_pan,
    stepOp, ev, upd_apply, putF, cellsOf, deref, faddrV, mk, abin, abinI, abinS, ibits, aeqb, aun, fldV, idxOf, elems, isPtr, putRef, splice, fillA, rowsA, minV, peqV, elemsA, rowBytes, strOf, Store.get_push, Store.get_set, Store.n_push, Store.n_set,
    Option.map_some, Option.map_none, reduceIte, Nat.reduceEqDiff, Nat.reduceAdd, Nat.reduceLeDiff, Nat.reduceLT, Nat.zero_add, Nat.add_zero, Nat.add_assoc, Nat.add_left_cancel_iff, Nat.left_eq_add, Nat.add_eq_left, Nat.lt_irrefl, Nat.le_refl,
    List.drop_zero, List.drop_succ_cons, List.take_succ_cons, List.take_zero, List.headD_cons, List.length_cons, List.length_nil, List.getElem?_cons_zero, List.getElem?_cons_succ, List.set_cons_zero, List.set_cons_succ, List.map_cons, List.map_nil,
    Bool.not_true, Bool.not_false, Bool.false_eq_true, Bool.true_eq_false, Bool.not_eq_true', Bool.not_eq_false', eq_self, false_imp_iff, true_imp_iff, and_true, true_and, and_false, false_and, or_true, true_or, initFr, fr0_at, Qend, resL, resV1, pack,
    decide_eq_true_eq, decide_eq_false_iff_not, Int.toNat_natCast, Option.some.injEq, exists_eq_left', vc_cond2, vcC2_bool, vcCB_T, vcCB_F, vcCB_dec, decide_true, decide_false]
    exact ⟨by rw [e1, e2]; rfl, hx⟩
end Go.Proofs.Ytmlllckecalaaaa.Eng

namespace Go.Proofs.Ytmlllckecalaaaa.Eng
open Go Go.Proofs.Try

/-! ## What reading tells -/
inductive RR where
  | err (n : Nat)
  | ok (x : Elem) (rest : List UInt8)
inductive KK where
  | err (n : Nat)
  | ok (ks : List Elem)
def kidsF (rd : List UInt8 → RR) : Nat → List UInt8 → KK
  | 0, _ => .ok []
  | g + 1, c => if c = [] then .ok [] else match rd c with
    | .err n => .err n
    | .ok k r => match kidsF rd g r with
      | .err n => .err n
      | .ok ks => .ok (k :: ks)
def addK (d : List Elem) : KK → KK
  | .err n => .err n
  | .ok ks => .ok (d ++ ks)
def clsB (b : List UInt8) : Nat := (b.headD 0).toNat / 64
def tagB (b : List UInt8) : Nat := (b.headD 0).toNat % 32
def consB (b : List UInt8) : Bool := decide ((b.headD 0).toNat / 32 % 2 = 1)
def contB (b : List UInt8) : List UInt8 := (b.take ((headS b).1 + (headS b).2.1)).drop (headS b).1
def restB (b : List UInt8) : List UInt8 := b.drop ((headS b).1 + (headS b).2.1)
def endK (b : List UInt8) : KK → RR
  | .err n => .err n
  | .ok ks => .ok (.mk (clsB b) (tagB b) true [] ks []) (restB b)
def readF : Nat → List UInt8 → Nat → RR
  | 0, _, _ => .err 99
  | f + 1, b, w =>
    if (headS b).2.2 ≠ 0 then .err (headS b).2.2
    else if w ≥ 20 then .err 23
    else if b.length < (headS b).1 + (headS b).2.1 then .err 20
    else if consB b = false then .ok (.mk (clsB b) (tagB b) false (contB b) [] []) (restB b)
    else endK b (kidsF (fun c => readF f c (w + 1)) (contB b).length (contB b))
def resV : RR → AEnd
  | .err n => .pan (.ifc 28 (.int .i64 (n : Nat)))
  | .ok x r => .ret (.tup [.agg (encE x), .str r])

theorem headS_two (b : List UInt8) (h : (headS b).2.2 = 0) : 2 ≤ (headS b).1 ∧ ∃ c d r, b = c :: d :: r := by
  obtain ⟨h1, h2⟩ := headS_eq b h
  rw [h1] at h ⊢
  match b with
  | [] => simp [rheadS] at h
  | [c] => simp only [rheadS] at h; split at h <;> simp at h
  | c :: d :: r =>
    refine ⟨?_, c, d, r, rfl⟩
    simp only [rheadS] at h ⊢
    split at h
    · simp at h
    rename_i h3
    rw [if_neg h3]
    split at h
    · rename_i h4; rw [if_pos h4]; simp
    rename_i h4
    rw [if_neg h4]
    split at h
    · simp at h
    rename_i h5
    rw [if_neg h5]
    split at h
    · simp at h
    rename_i h6
    rw [if_neg h6]; simp only; omega
theorem readF_ok {f : Nat} {b : List UInt8} {w : Nat} {x : Elem} {r : List UInt8} (h : readF f b w = .ok x r) : (headS b).2.2 = 0 ∧ w < 20 ∧ (headS b).1 + (headS b).2.1 ≤ b.length ∧ r = restB b ∧ r.length < b.length := by
  cases f with
  | zero => simp [readF] at h
  | succ f =>
    simp only [readF] at h
    split at h
    · cases h
    split at h
    · cases h
    split at h
    · cases h
    rename_i h1 h2 h3
    have h1' : (headS b).2.2 = 0 := by simpa using h1
    have hr : r = restB b := by
      split at h
      · cases h; rfl
      · generalize kidsF _ _ _ = kk at h
        cases kk with
        | err n => cases h
        | ok ks => simp only [endK] at h; cases h; rfl
    have := (headS_two b h1').1
    exact ⟨h1', by omega, by omega, hr, by rw [hr, restB, List.length_drop]; omega⟩
theorem contB_len (b : List UInt8) (h : (headS b).2.2 = 0) (hl : (headS b).1 + (headS b).2.1 ≤ b.length) : (contB b).length = (headS b).2.1 ∧ (contB b).length + 2 ≤ b.length ∧ (contB b).length ≤ 65536 := by
  have h2 := (headS_two b h).1
  have h3 := (headS_lt b).2.1
  have : (contB b).length = (headS b).2.1 := by rw [contB, List.length_drop, List.length_take]; omega
  exact ⟨this, by omega, by omega⟩

theorem shr6 : ∀ c : UInt8, (c.toNat : Int).fdiv (2 ^ min (Int.toNat 6) IntKind.u8.bits) = ((c.toNat / 64 : Nat) : Int) := by
  have h : ∀ c : Fin 256, (c.val : Int).fdiv (2 ^ min (Int.toNat 6) IntKind.u8.bits) = ((c.val / 64 : Nat) : Int) := by decide +kernel
  exact fun c => h ⟨c.toNat, c.toNat_lt⟩
theorem and32 : ∀ c : UInt8, (IntKind.u8.wrap ((BitVec.ofInt IntKind.u8.bits (c.toNat : Int) &&& BitVec.ofInt IntKind.u8.bits 32).toNat : Int) = 0) ↔ ¬ (c.toNat / 32 % 2 = 1) := by
  have h : ∀ c : Fin 256, (IntKind.u8.wrap ((BitVec.ofInt IntKind.u8.bits (c.val : Int) &&& BitVec.ofInt IntKind.u8.bits 32).toNat : Int) = 0) ↔ ¬ (c.val / 32 % 2 = 1) := by decide +kernel
  exact fun c => h ⟨c.toNat, c.toNat_lt⟩

/-- What the walk of `read` comes to, ahead of its row's being given out. -/
def readK (S : Store) (R : RR) (r : AEnd) (S' : Store) : Prop := Ext S S' ∧ match R with
  | .err n => r = .pan (.ifc 28 (.int .i64 (n : Nat)))
  | .ok x rest => (x.kids = [] ∧ x.ext = [] ∧ r = .ret (.tup [.agg [.int .i64 x.cls, .int .i64 x.tag, .bool x.cons, .str x.bytes, .lit (.slice none 0 0)], .str rest])) ∨
      ∃ k, S.n ≤ k ∧ x.ext = [] ∧ r = .ret (.tup [.agg [.int .i64 x.cls, .int .i64 x.tag, .bool x.cons, .str x.bytes, .own k 0 x.kids.length], .str rest]) ∧ S'.get k = some (.row 24 5 0 (encEs x.kids))

/-- No names stand in it. -/
def bare (x : Elem) : Prop := ∀ n, nmL n (encE x)
theorem read_out {P : Program} {f : FuncId} {args : List AV} {S : Store} {R : RR} (hb : ∀ x r, R = .ok x r → bare x) (h : ACalls P f args S (readK S R)) : ACalls P f args S fun r S' => r = resV R ∧ S' = S := by
  cases R with
  | err n => exact h.back fun r S' ⟨h1, h2⟩ => ⟨h1, by rw [h2]; simp only [AEnd.val, nm], h2, rfl⟩
  | ok x rest =>
    have hbx := hb x rest rfl
    refine ACalls.wf fun hwf _ => h.turn fun r S' ⟨h1, h2⟩ => ?_
    have hreset : ∀ (T : Store) (v : AV), Ext S T → nm S.n v → Turn S.n [v] T [v] S := fun T v hE hn => Turn.reset hE.n (Nat.le_refl _) (fun l o e => by
      obtain ⟨a1, a2⟩ := hwf l o e
      exact ⟨by rw [hE.get l a1]; exact e, a1, a2⟩) (by simp only [nmL]; exact ⟨hn, trivial⟩)
    have hn : nm S.n (.tup [.agg (encE x), .str rest]) := by simp only [nm, nmL, and_true]; exact hbx _
    refine ⟨.tup [.agg (encE x), .str rest], S, ?_, ?_⟩
    rotate_left
    · rcases h2 with ⟨_, _, rfl⟩ | ⟨k, _, _, rfl, _⟩ <;> exact ⟨rfl, rfl⟩
    rcases h2 with ⟨h3, h4, rfl⟩ | ⟨k, hk, h4, rfl, hrow⟩
    · refine Turn.trans (Turn.weak (vs' := [.tup [.agg (encE x), .str rest]]) (.cons (Wk.tup (.cons (Wk.agg ?_) (.cons (Wk.refl _) .nil))) .nil)) (hreset _ _ h1 hn)
      rw [encE_eta, h3, h4]
      exact .cons (Wk.refl _) (.cons (Wk.refl _) (.cons (Wk.refl _) (.cons (Wk.refl _) (.cons (Wk.nil 5) .nil))))
    · have hv : fzL k 5 (encEs x.kids) [.tup [.agg [.int .i64 x.cls, .int .i64 x.tag, .bool x.cons, .str x.bytes, .own k 0 x.kids.length], .str rest]] = [.tup [.agg (encE x), .str rest]] := by
        rw [encE_eta, h4]; simp [fzL, fz]
      have t1 := Turn.freeze (n0 := S.n) (vs := [.tup [.agg [.int .i64 x.cls, .int .i64 x.tag, .bool x.cons, .str x.bytes, .own k 0 x.kids.length], .str rest]]) hrow (by
        simp only [fzOkL, fzOk, and_true, true_and, encEs_length]; intro _; omega)
      rw [hv] at t1
      exact Turn.trans t1 (hreset _ _ (h1.set _ _ hk) hn)
end Go.Proofs.Ytmlllckecalaaaa.Eng

namespace Go.Proofs.Ytmlllckecalaaaa.Eng
open Go Go.Proofs.Try

theorem bare_kids {ks : List Elem} (h : ∀ k ∈ ks, bare k) (n : Nat) : nmLL n (encEs ks) := by
  induction ks with
  | nil => simp only [encEs, nmLL]
  | cons k ks ih => simp only [encEs, nmLL]; exact ⟨h k (by simp) n, ih fun x hx => h x (by simp [hx])⟩
theorem bare_mk {c t : Int} {k : Bool} {b : List UInt8} {ks : List Elem} (h : ∀ k ∈ ks, bare k) : bare (.mk c t k b ks []) := fun n => by
  simp only [encE, nmL, nm, and_true, true_and, List.append_nil]; exact bare_kids h n
theorem kidsF_all {p : Elem → Prop} {rd : List UInt8 → RR} (h : ∀ c x r, rd c = .ok x r → p x) : ∀ (g : Nat) (c : List UInt8) (ks : List Elem), kidsF rd g c = .ok ks → ∀ k ∈ ks, p k
  | 0, c, ks, hk => by simp only [kidsF] at hk; cases hk; simp
  | g + 1, c, ks, hk => by
    simp only [kidsF] at hk
    split at hk
    · cases hk; simp
    · split at hk
      · cases hk
      · rename_i k r hr
        split at hk
        · cases hk
        · rename_i ks' hks
          cases hk
          intro x hx
          rcases List.mem_cons.1 hx with rfl | hx
          · exact h _ _ _ hr
          · exact kidsF_all h g r ks' hks x hx
theorem readF_bare : ∀ (f : Nat) (b : List UInt8) (w : Nat) (x : Elem) (r : List UInt8), readF f b w = .ok x r → bare x
  | 0, b, w, x, r, h => by simp [readF] at h
  | f + 1, b, w, x, r, h => by
    simp only [readF] at h
    split at h
    · cases h
    split at h
    · cases h
    split at h
    · cases h
    split at h
    · cases h; exact bare_mk (by simp)
    · generalize hk : kidsF _ _ _ = kk at h
      cases kk with
      | err n => cases h
      | ok ks =>
        simp only [endK] at h; cases h
        exact bare_mk (kidsF_all (fun c x r hc => readF_bare f c (w + 1) x r hc) _ _ _ hk)

def Z5 : List AV := [.int .i64 0, .int .i64 0, .bool false, .str [], .lit (.slice none 0 0)]

theorem c62 (f : Nat) : ∀ (b : List UInt8) (w : Nat), b.length < f → w ≤ 20 → ∀ S, ACalls prog 62 [.str b, .int .i64 w] S fun r S' => r = resV (readF f b w) ∧ S' = S := by
  induction f with
  | zero => intro b w h; omega
  | succ f ih =>
  intro b w hf hw S
  refine read_out (fun x r h => readF_bare _ _ _ _ _ h) (acalls_of_vc low62 (by simp) ?_)
  obtain ⟨hd1, hd2, hd3, hd4⟩ := headS_lt b
  unfold B62
  refine vc_cut (fun fr T => fr 0 = .str b ∧ fr 1 = .int .i64 w ∧ fr 4 = .ptr S.n 0 ∧ S.push (.box 24 Z5) = T) (by simp -implicitDefEqProofs only [vc_region, vc_quiet, vcD_nil, vcD_val2, vcDO_val, vcDO_asks, vcD_eff, vcD_guard2, vcDG_TT, vcDG_FF, vcDG_TF, vcDG_FT, vcDG_und, vcDG_Tdec, vcDG_Fdec, vcDEff, saysAll, pendAll, pendNext, addPend, Says, vc_bad, vc_seq, vc_ret, vc_skip, vc_block, vc_exit, vcGrps_nil, vcGrps_cons, vcGrps_guard2, vcG2_bool, vcG2_und, vcGB_TT, vcGB_FF, vcGB_TF, vcGB_FT, vcGB_Tdec, vcGB_Fdec, vcOps_nil, vcOps_cons, vcOut, KCall_ret, KCall_pan, skipF_nil, skipF_cons, Qseq_normal, Qseq_ret, Qseq_exit, Qseq_pan, Qblk_normal, Qblk_exit, Qblk_ret, Qblk_pan, Qpan_eq, Qcut_normal, Qcut_exit, Qcut_ret, Qcut_pan, Qloop_normal, Qloop_exit, Qloop_ret, Qloop_pan,
    stepOp, ev, upd_apply, putF, cellsOf, deref, faddrV, mk, abin, abinI, abinS, ibits, aeqb, aun, fldV, idxOf, elems, isPtr, putRef, splice, fillA, rowsA, minV, peqV, elemsA, rowBytes, strOf, Store.get_push, Store.get_set, Store.n_push, Store.n_set,
    Option.map_some, Option.map_none, reduceIte, Nat.reduceEqDiff, Nat.reduceAdd, Nat.reduceLeDiff, Nat.reduceLT, Nat.zero_add, Nat.add_zero, Nat.add_assoc, Nat.add_left_cancel_iff, Nat.left_eq_add, Nat.add_eq_left, Nat.lt_irrefl, Nat.le_refl,
    List.drop_zero, List.drop_succ_cons, List.take_succ_cons, List.take_zero, List.headD_cons, List.length_cons, List.length_nil, List.getElem?_cons_zero, List.getElem?_cons_succ, List.set_cons_zero, List.set_cons_succ, List.map_cons, List.map_nil,
    Bool.not_true, Bool.not_false, Bool.false_eq_true, Bool.true_eq_false, Bool.not_eq_true', Bool.not_eq_false', eq_self, false_imp_iff, true_imp_iff, and_true, true_and, and_false, false_and, or_true, true_or, initFr, fr0_at, Qend, resL, resV1, pack,
    decide_eq_true_eq, decide_eq_false_iff_not, Int.toNat_natCast, Option.some.injEq, exists_eq_left', vc_cond2, vcC2_bool, vcCB_T, vcCB_F, vcCB_dec, decide_true, decide_false]; rfl) ?_
  rintro fr T ⟨f0, f1, f4, rfl⟩
  refine vc_cut (fun fr T => fr 0 = .str b ∧ fr 1 = .int .i64 w ∧ fr 4 = .ptr S.n 0 ∧ S.push (.box 24 Z5) = T ∧ fr 6 = .int .i64 ((headS b).1 : Nat) ∧ fr 7 = .int .i64 ((headS b).2.1 : Nat) ∧ fr 8 = .int .i64 ((headS b).2.2 : Nat)) ?_ ?_
  · simp -implicitDefEqProofs only [f0, f1, f4, vc_region, vc_quiet, vcD_nil, vcD_val2, vcDO_val, vcDO_asks, vcD_eff, vcD_guard2, vcDG_TT, vcDG_FF, vcDG_TF, vcDG_FT, vcDG_und, vcDG_Tdec, vcDG_Fdec, vcDEff, saysAll, pendAll, pendNext, addPend, Says, vc_bad, vc_seq, vc_ret, vc_skip, vc_block, vc_exit, vcGrps_nil, vcGrps_cons, vcGrps_guard2, vcG2_bool, vcG2_und, vcGB_TT, vcGB_FF, vcGB_TF, vcGB_FT, vcGB_Tdec, vcGB_Fdec, vcOps_nil, vcOps_cons, vcOut, KCall_ret, KCall_pan, skipF_nil, skipF_cons, Qseq_normal, Qseq_ret, Qseq_exit, Qseq_pan, Qblk_normal, Qblk_exit, Qblk_ret, Qblk_pan, Qpan_eq, Qcut_normal, Qcut_exit, Qcut_ret, Qcut_pan, Qloop_normal, Qloop_exit, Qloop_ret, Qloop_pan,
    stepOp, ev, upd_apply, putF, cellsOf, deref, faddrV, mk, abin, abinI, abinS, ibits, aeqb, aun, fldV, idxOf, elems, isPtr, putRef, splice, fillA, rowsA, minV, peqV, elemsA, rowBytes, strOf, Store.get_push, Store.get_set, Store.n_push, Store.n_set,
    Option.map_some, Option.map_none, reduceIte, Nat.reduceEqDiff, Nat.reduceAdd, Nat.reduceLeDiff, Nat.reduceLT, Nat.zero_add, Nat.add_zero, Nat.add_assoc, Nat.add_left_cancel_iff, Nat.left_eq_add, Nat.add_eq_left, Nat.lt_irrefl, Nat.le_refl,
    List.drop_zero, List.drop_succ_cons, List.take_succ_cons, List.take_zero, List.headD_cons, List.length_cons, List.length_nil, List.getElem?_cons_zero, List.getElem?_cons_succ, List.set_cons_zero, List.set_cons_succ, List.map_cons, List.map_nil,
    Bool.not_true, Bool.not_false, Bool.false_eq_true, Bool.true_eq_false, Bool.not_eq_true', Bool.not_eq_false', eq_self, false_imp_iff, true_imp_iff, and_true, true_and, and_false, false_and, or_true, true_or, initFr, fr0_at, Qend, resL, resV1, pack,
    decide_eq_true_eq, decide_eq_false_iff_not, Int.toNat_natCast, Option.some.injEq, exists_eq_left', vc_cond2, vcC2_bool, vcCB_T, vcCB_F, vcCB_dec, decide_true, decide_false]
    refine (c52 b).use ?_
    simp -implicitDefEqProofs only [f0, f1, f4, encH, vc_region, vc_quiet, vcD_nil, vcD_val2, vcDO_val, vcDO_asks, vcD_eff, vcD_guard2, vcDG_TT, vcDG_FF, vcDG_TF, vcDG_FT, vcDG_und, vcDG_Tdec, vcDG_Fdec, vcDEff, saysAll, pendAll, pendNext, addPend, Says, vc_bad, vc_seq, vc_ret, vc_skip, vc_block, vc_exit, vcGrps_nil, vcGrps_cons, vcGrps_guard2, vcG2_bool, vcG2_und, vcGB_TT, vcGB_FF, vcGB_TF, vcGB_FT, vcGB_Tdec, vcGB_Fdec, vcOps_nil, vcOps_cons, vcOut, KCall_ret, KCall_pan, skipF_nil, skipF_cons, Qseq_normal, Qseq_ret, Qseq_exit, Qseq_pan, Qblk_normal, Qblk_exit, Qblk_ret, Qblk_pan, Qpan_eq, Qcut_normal, Qcut_exit, Qcut_ret, Qcut_pan, Qloop_normal, Qloop_exit, Qloop_ret, Qloop_pan,
    stepOp, ev, upd_apply, putF, cellsOf, deref, faddrV, mk, abin, abinI, abinS, ibits, aeqb, aun, fldV, idxOf, elems, isPtr, putRef, splice, fillA, rowsA, minV, peqV, elemsA, rowBytes, strOf, Store.get_push, Store.get_set, Store.n_push, Store.n_set,
    Option.map_some, Option.map_none, reduceIte, Nat.reduceEqDiff, Nat.reduceAdd, Nat.reduceLeDiff, Nat.reduceLT, Nat.zero_add, Nat.add_zero, Nat.add_assoc, Nat.add_left_cancel_iff, Nat.left_eq_add, Nat.add_eq_left, Nat.lt_irrefl, Nat.le_refl,
    List.drop_zero, List.drop_succ_cons, List.take_succ_cons, List.take_zero, List.headD_cons, List.length_cons, List.length_nil, List.getElem?_cons_zero, List.getElem?_cons_succ, List.set_cons_zero, List.set_cons_succ, List.map_cons, List.map_nil,
    Bool.not_true, Bool.not_false, Bool.false_eq_true, Bool.true_eq_false, Bool.not_eq_true', Bool.not_eq_false', eq_self, false_imp_iff, true_imp_iff, and_true, true_and, and_false, false_and, or_true, true_or, initFr, fr0_at, Qend, resL, resV1, pack,
    decide_eq_true_eq, decide_eq_false_iff_not, Int.toNat_natCast, Option.some.injEq, exists_eq_left', vc_cond2, vcC2_bool, vcCB_T, vcCB_F, vcCB_dec, decide_true, decide_false]
  clear f0 f1 f4 fr
  rintro fr T ⟨f0, f1, f4, rfl, f6, f7, f8⟩
  have hE1 := (Ext.refl S).push (.box 24 Z5)
  have hwn : IntKind.i64.wrap (((headS b).1 : Int) + ((headS b).2.1 : Nat)) = (((headS b).1 + (headS b).2.1 : Nat) : Int) := by rw [w64 _ (by omega) (by omega)]; omega
  refine vc_cut (fun fr T => fr 0 = .str b ∧ fr 1 = .int .i64 w ∧ fr 4 = .ptr S.n 0 ∧ S.push (.box 24 Z5) = T ∧ fr 6 = .int .i64 ((headS b).1 : Nat) ∧ fr 7 = .int .i64 ((headS b).2.1 : Nat) ∧ (headS b).2.2 = 0 ∧ w < 20 ∧ (headS b).1 + (headS b).2.1 ≤ b.length) ?_ ?_
  · by_cases he : (headS b).2.2 = 0
    rotate_left
    · have he' : ¬ (((headS b).2.2 : Nat) : Int) = 0 := by omega
      simp -implicitDefEqProofs only [f0, f1, f4, f6, f7, f8, he', ne_eq, not_false_eq_true, Qcut_pan, Qend, vc_region, vc_quiet, vcD_nil, vcD_val2, vcDO_val, vcDO_asks, vcD_eff, vcD_guard2, vcDG_TT, vcDG_FF, vcDG_TF, vcDG_FT, vcDG_und, vcDG_Tdec, vcDG_Fdec, vcDEff, saysAll, pendAll, pendNext, addPend, Says, vc_bad, vc_seq, vc_ret, vc_skip, vc_block, vc_exit, vcGrps_nil, vcGrps_cons, vcGrps_guard2, vcG2_bool, vcG2_und, vcGB_TT, vcGB_FF, vcGB_TF, vcGB_FT, vcGB_Tdec, vcGB_Fdec, vcOps_nil, vcOps_cons, vcOut, KCall_ret, KCall_pan, skipF_nil, skipF_cons, Qseq_normal, Qseq_ret, Qseq_exit, Qseq_pan, Qblk_normal, Qblk_exit, Qblk_ret, Qblk_pan, Qpan_eq, Qcut_normal, Qcut_exit, Qcut_ret, Qcut_pan, Qloop_normal, Qloop_exit, Qloop_ret, Qloop_pan,
    stepOp, ev, upd_apply, putF, cellsOf, deref, faddrV, mk, abin, abinI, abinS, ibits, aeqb, aun, fldV, idxOf, elems, isPtr, putRef, splice, fillA, rowsA, minV, peqV, elemsA, rowBytes, strOf, Store.get_push, Store.get_set, Store.n_push, Store.n_set,
    Option.map_some, Option.map_none, reduceIte, Nat.reduceEqDiff, Nat.reduceAdd, Nat.reduceLeDiff, Nat.reduceLT, Nat.zero_add, Nat.add_zero, Nat.add_assoc, Nat.add_left_cancel_iff, Nat.left_eq_add, Nat.add_eq_left, Nat.lt_irrefl, Nat.le_refl,
    List.drop_zero, List.drop_succ_cons, List.take_succ_cons, List.take_zero, List.headD_cons, List.length_cons, List.length_nil, List.getElem?_cons_zero, List.getElem?_cons_succ, List.set_cons_zero, List.set_cons_succ, List.map_cons, List.map_nil,
    Bool.not_true, Bool.not_false, Bool.false_eq_true, Bool.true_eq_false, Bool.not_eq_true', Bool.not_eq_false', eq_self, false_imp_iff, true_imp_iff, and_true, true_and, and_false, false_and, or_true, true_or, initFr, fr0_at, Qend, resL, resV1, pack,
    decide_eq_true_eq, decide_eq_false_iff_not, Int.toNat_natCast, Option.some.injEq, exists_eq_left', vc_cond2, vcC2_bool, vcCB_T, vcCB_F, vcCB_dec, decide_true, decide_false]
      exact ⟨hE1, by simp only [readF, if_pos he]⟩
    have he' : (((headS b).2.2 : Nat) : Int) = 0 := by omega
    have he2 : ¬ (headS b).2.2 ≠ 0 := by omega
    by_cases hw2 : w ≥ 20
    · have hw' : (w : Int) ≥ 20 := by omega
      simp -implicitDefEqProofs only [f0, f1, f4, f6, f7, f8, he', hw', ne_eq, not_true, not_false_eq_true, Qcut_pan, Qend, vc_region, vc_quiet, vcD_nil, vcD_val2, vcDO_val, vcDO_asks, vcD_eff, vcD_guard2, vcDG_TT, vcDG_FF, vcDG_TF, vcDG_FT, vcDG_und, vcDG_Tdec, vcDG_Fdec, vcDEff, saysAll, pendAll, pendNext, addPend, Says, vc_bad, vc_seq, vc_ret, vc_skip, vc_block, vc_exit, vcGrps_nil, vcGrps_cons, vcGrps_guard2, vcG2_bool, vcG2_und, vcGB_TT, vcGB_FF, vcGB_TF, vcGB_FT, vcGB_Tdec, vcGB_Fdec, vcOps_nil, vcOps_cons, vcOut, KCall_ret, KCall_pan, skipF_nil, skipF_cons, Qseq_normal, Qseq_ret, Qseq_exit, Qseq_pan, Qblk_normal, Qblk_exit, Qblk_ret, Qblk_pan, Qpan_eq, Qcut_normal, Qcut_exit, Qcut_ret, Qcut_pan, Qloop_normal, Qloop_exit, Qloop_ret, Qloop_pan,
    stepOp, ev, upd_apply, putF, cellsOf, deref, faddrV, mk, abin, abinI, abinS, ibits, aeqb, aun, fldV, idxOf, elems, isPtr, putRef, splice, fillA, rowsA, minV, peqV, elemsA, rowBytes, strOf, Store.get_push, Store.get_set, Store.n_push, Store.n_set,
    Option.map_some, Option.map_none, reduceIte, Nat.reduceEqDiff, Nat.reduceAdd, Nat.reduceLeDiff, Nat.reduceLT, Nat.zero_add, Nat.add_zero, Nat.add_assoc, Nat.add_left_cancel_iff, Nat.left_eq_add, Nat.add_eq_left, Nat.lt_irrefl, Nat.le_refl,
    List.drop_zero, List.drop_succ_cons, List.take_succ_cons, List.take_zero, List.headD_cons, List.length_cons, List.length_nil, List.getElem?_cons_zero, List.getElem?_cons_succ, List.set_cons_zero, List.set_cons_succ, List.map_cons, List.map_nil,
    Bool.not_true, Bool.not_false, Bool.false_eq_true, Bool.true_eq_false, Bool.not_eq_true', Bool.not_eq_false', eq_self, false_imp_iff, true_imp_iff, and_true, true_and, and_false, false_and, or_true, true_or, initFr, fr0_at, Qend, resL, resV1, pack,
    decide_eq_true_eq, decide_eq_false_iff_not, Int.toNat_natCast, Option.some.injEq, exists_eq_left', vc_cond2, vcC2_bool, vcCB_T, vcCB_F, vcCB_dec, decide_true, decide_false]
      exact ⟨hE1, by simp only [readF, if_neg he2, if_pos hw2]; rfl⟩
    have hw' : ¬ (w : Int) ≥ 20 := by omega
    by_cases hl : b.length < (headS b).1 + (headS b).2.1
    · have hl' : (b.length : Int) < (((headS b).1 + (headS b).2.1 : Nat) : Int) := by omega
      simp -implicitDefEqProofs only [f0, f1, f4, f6, f7, f8, he', hw', hwn, hl', ne_eq, not_true, not_false_eq_true, Qcut_pan, Qend, vc_region, vc_quiet, vcD_nil, vcD_val2, vcDO_val, vcDO_asks, vcD_eff, vcD_guard2, vcDG_TT, vcDG_FF, vcDG_TF, vcDG_FT, vcDG_und, vcDG_Tdec, vcDG_Fdec, vcDEff, saysAll, pendAll, pendNext, addPend, Says, vc_bad, vc_seq, vc_ret, vc_skip, vc_block, vc_exit, vcGrps_nil, vcGrps_cons, vcGrps_guard2, vcG2_bool, vcG2_und, vcGB_TT, vcGB_FF, vcGB_TF, vcGB_FT, vcGB_Tdec, vcGB_Fdec, vcOps_nil, vcOps_cons, vcOut, KCall_ret, KCall_pan, skipF_nil, skipF_cons, Qseq_normal, Qseq_ret, Qseq_exit, Qseq_pan, Qblk_normal, Qblk_exit, Qblk_ret, Qblk_pan, Qpan_eq, Qcut_normal, Qcut_exit, Qcut_ret, Qcut_pan, Qloop_normal, Qloop_exit, Qloop_ret, Qloop_pan,
    stepOp, ev, upd_apply, putF, cellsOf, deref, faddrV, mk, abin, abinI, abinS, ibits, aeqb, aun, fldV, idxOf, elems, isPtr, putRef, splice, fillA, rowsA, minV, peqV, elemsA, rowBytes, strOf, Store.get_push, Store.get_set, Store.n_push, Store.n_set,
    Option.map_some, Option.map_none, reduceIte, Nat.reduceEqDiff, Nat.reduceAdd, Nat.reduceLeDiff, Nat.reduceLT, Nat.zero_add, Nat.add_zero, Nat.add_assoc, Nat.add_left_cancel_iff, Nat.left_eq_add, Nat.add_eq_left, Nat.lt_irrefl, Nat.le_refl,
    List.drop_zero, List.drop_succ_cons, List.take_succ_cons, List.take_zero, List.headD_cons, List.length_cons, List.length_nil, List.getElem?_cons_zero, List.getElem?_cons_succ, List.set_cons_zero, List.set_cons_succ, List.map_cons, List.map_nil,
    Bool.not_true, Bool.not_false, Bool.false_eq_true, Bool.true_eq_false, Bool.not_eq_true', Bool.not_eq_false', eq_self, false_imp_iff, true_imp_iff, and_true, true_and, and_false, false_and, or_true, true_or, initFr, fr0_at, Qend, resL, resV1, pack,
    decide_eq_true_eq, decide_eq_false_iff_not, Int.toNat_natCast, Option.some.injEq, exists_eq_left', vc_cond2, vcC2_bool, vcCB_T, vcCB_F, vcCB_dec, decide_true, decide_false]
      exact fun _ => ⟨hE1, by simp only [readF, if_neg he2, if_neg hw2, if_pos hl]; rfl⟩
    have hl' : ¬ (b.length : Int) < (((headS b).1 + (headS b).2.1 : Nat) : Int) := by omega
    simp -implicitDefEqProofs only [f0, f1, f4, f6, f7, f8, he', hw', hwn, hl', ne_eq, not_true, not_false_eq_true, Qcut_pan, Qend, vc_region, vc_quiet, vcD_nil, vcD_val2, vcDO_val, vcDO_asks, vcD_eff, vcD_guard2, vcDG_TT, vcDG_FF, vcDG_TF, vcDG_FT, vcDG_und, vcDG_Tdec, vcDG_Fdec, vcDEff, saysAll, pendAll, pendNext, addPend, Says, vc_bad, vc_seq, vc_ret, vc_skip, vc_block, vc_exit, vcGrps_nil, vcGrps_cons, vcGrps_guard2, vcG2_bool, vcG2_und, vcGB_TT, vcGB_FF, vcGB_TF, vcGB_FT, vcGB_Tdec, vcGB_Fdec, vcOps_nil, vcOps_cons, vcOut, KCall_ret, KCall_pan, skipF_nil, skipF_cons, Qseq_normal, Qseq_ret, Qseq_exit, Qseq_pan, Qblk_normal, Qblk_exit, Qblk_ret, Qblk_pan, Qpan_eq, Qcut_normal, Qcut_exit, Qcut_ret, Qcut_pan, Qloop_normal, Qloop_exit, Qloop_ret, Qloop_pan,
    stepOp, ev, upd_apply, putF, cellsOf, deref, faddrV, mk, abin, abinI, abinS, ibits, aeqb, aun, fldV, idxOf, elems, isPtr, putRef, splice, fillA, rowsA, minV, peqV, elemsA, rowBytes, strOf, Store.get_push, Store.get_set, Store.n_push, Store.n_set,
    Option.map_some, Option.map_none, reduceIte, Nat.reduceEqDiff, Nat.reduceAdd, Nat.reduceLeDiff, Nat.reduceLT, Nat.zero_add, Nat.add_zero, Nat.add_assoc, Nat.add_left_cancel_iff, Nat.left_eq_add, Nat.add_eq_left, Nat.lt_irrefl, Nat.le_refl,
    List.drop_zero, List.drop_succ_cons, List.take_succ_cons, List.take_zero, List.headD_cons, List.length_cons, List.length_nil, List.getElem?_cons_zero, List.getElem?_cons_succ, List.set_cons_zero, List.set_cons_succ, List.map_cons, List.map_nil,
    Bool.not_true, Bool.not_false, Bool.false_eq_true, Bool.true_eq_false, Bool.not_eq_true', Bool.not_eq_false', eq_self, false_imp_iff, true_imp_iff, and_true, true_and, and_false, false_and, or_true, true_or, initFr, fr0_at, Qend, resL, resV1, pack,
    decide_eq_true_eq, decide_eq_false_iff_not, Int.toNat_natCast, Option.some.injEq, exists_eq_left', vc_cond2, vcC2_bool, vcCB_T, vcCB_F, vcCB_dec, decide_true, decide_false]
    exact fun _ => ⟨he, by omega, by omega⟩
  clear f0 f1 f4 f6 f7 f8 fr
  rintro fr T ⟨f0, f1, f4, rfl, f6, f7, he, hw20, hl⟩
  have he2 : ¬ (headS b).2.2 ≠ 0 := by omega
  have hw2 : ¬ w ≥ 20 := by omega
  have hl2 : ¬ b.length < (headS b).1 + (headS b).2.1 := by omega
  obtain ⟨hn2, hc⟩ := headS_two b he
  obtain ⟨cl1, cl2, cl3⟩ := contB_len b he hl
  -- the element's head
  refine vc_cut (fun fr T => fr 0 = .str b ∧ fr 1 = .int .i64 w ∧ fr 4 = .ptr S.n 0 ∧ fr 6 = .int .i64 ((headS b).1 : Nat) ∧ fr 7 = .int .i64 ((headS b).2.1 : Nat) ∧ fr 9 = .ptr (S.n + 1) 0 ∧ Ext S T ∧ T.n = S.n + 2 ∧
    T.get S.n = some (.box 24 Z5) ∧ T.get (S.n + 1) = some (.box 24 [.int .i64 (clsB b), .int .i64 (tagB b), .bool (consB b), .str [], .lit (.slice none 0 0)])) ?_ ?_
  · obtain ⟨c, d, r, hb⟩ := hc
    have hb0 : b[Int.toNat 0]? = some c := by rw [hb]; rfl
    have h00 : (0 : Int) ≤ 0 := by decide
    have h06 : ¬ (6 : Int) < 0 := by decide
    have a1 := shr6 c
    have a2 := and31 c
    have hcl : clsB b = c.toNat / 64 := by rw [hb]; rfl
    have htg : tagB b = c.toNat % 32 := by rw [hb]; rfl
    have hco : consB b = decide (c.toNat / 32 % 2 = 1) := by rw [hb]; rfl
    have hcb := c.toNat_lt
    have w1 : IntKind.i64.wrap ((c.toNat / 64 : Nat) : Int) = ((c.toNat / 64 : Nat) : Int) := w64 _ (by omega) (by omega)
    have w2 : IntKind.i64.wrap ((c.toNat % 32 : Nat) : Int) = ((c.toNat % 32 : Nat) : Int) := w64 _ (by omega) (by omega)
    rw [hcl, htg, hco]
    by_cases hc32 : c.toNat / 32 % 2 = 1
    · have a3 : ¬ IntKind.u8.wrap ((BitVec.ofInt IntKind.u8.bits (c.toNat : Int) &&& BitVec.ofInt IntKind.u8.bits 32).toNat : Int) = 0 := fun h => (and32 c).1 h hc32
      simp -implicitDefEqProofs only [f0, f1, f4, f6, f7, ashift, hb0, h00, h06, a1, a2, a3, w1, w2, hc32, ne_eq, not_false_eq_true, Says, pendAll, pendNext, addPend, saysAll, splice, vcDEff, vc_region, vc_quiet, vcD_nil, vcD_val2, vcDO_val, vcDO_asks, vcD_eff, vcD_guard2, vcDG_TT, vcDG_FF, vcDG_TF, vcDG_FT, vcDG_und, vcDG_Tdec, vcDG_Fdec, vcDEff, saysAll, pendAll, pendNext, addPend, Says, vc_bad, vc_seq, vc_ret, vc_skip, vc_block, vc_exit, vcGrps_nil, vcGrps_cons, vcGrps_guard2, vcG2_bool, vcG2_und, vcGB_TT, vcGB_FF, vcGB_TF, vcGB_FT, vcGB_Tdec, vcGB_Fdec, vcOps_nil, vcOps_cons, vcOut, KCall_ret, KCall_pan, skipF_nil, skipF_cons, Qseq_normal, Qseq_ret, Qseq_exit, Qseq_pan, Qblk_normal, Qblk_exit, Qblk_ret, Qblk_pan, Qpan_eq, Qcut_normal, Qcut_exit, Qcut_ret, Qcut_pan, Qloop_normal, Qloop_exit, Qloop_ret, Qloop_pan,
    stepOp, ev, upd_apply, putF, cellsOf, deref, faddrV, mk, abin, abinI, abinS, ibits, aeqb, aun, fldV, idxOf, elems, isPtr, putRef, splice, fillA, rowsA, minV, peqV, elemsA, rowBytes, strOf, Store.get_push, Store.get_set, Store.n_push, Store.n_set,
    Option.map_some, Option.map_none, reduceIte, Nat.reduceEqDiff, Nat.reduceAdd, Nat.reduceLeDiff, Nat.reduceLT, Nat.zero_add, Nat.add_zero, Nat.add_assoc, Nat.add_left_cancel_iff, Nat.left_eq_add, Nat.add_eq_left, Nat.lt_irrefl, Nat.le_refl,
    List.drop_zero, List.drop_succ_cons, List.take_succ_cons, List.take_zero, List.headD_cons, List.length_cons, List.length_nil, List.getElem?_cons_zero, List.getElem?_cons_succ, List.set_cons_zero, List.set_cons_succ, List.map_cons, List.map_nil,
    Bool.not_true, Bool.not_false, Bool.false_eq_true, Bool.true_eq_false, Bool.not_eq_true', Bool.not_eq_false', eq_self, false_imp_iff, true_imp_iff, and_true, true_and, and_false, false_and, or_true, true_or, initFr, fr0_at, Qend, resL, resV1, pack,
    decide_eq_true_eq, decide_eq_false_iff_not, Int.toNat_natCast, Option.some.injEq, exists_eq_left', vc_cond2, vcC2_bool, vcCB_T, vcCB_F, vcCB_dec, decide_true, decide_false]
      exact (hE1.push _).set _ _ (by omega)
    · have a3 : IntKind.u8.wrap ((BitVec.ofInt IntKind.u8.bits (c.toNat : Int) &&& BitVec.ofInt IntKind.u8.bits 32).toNat : Int) = 0 := (and32 c).2 hc32
      simp -implicitDefEqProofs only [f0, f1, f4, f6, f7, ashift, hb0, h00, h06, a1, a2, a3, w1, w2, hc32, ne_eq, not_true, not_false_eq_true, Says, pendAll, pendNext, addPend, saysAll, splice, vcDEff, vc_region, vc_quiet, vcD_nil, vcD_val2, vcDO_val, vcDO_asks, vcD_eff, vcD_guard2, vcDG_TT, vcDG_FF, vcDG_TF, vcDG_FT, vcDG_und, vcDG_Tdec, vcDG_Fdec, vcDEff, saysAll, pendAll, pendNext, addPend, Says, vc_bad, vc_seq, vc_ret, vc_skip, vc_block, vc_exit, vcGrps_nil, vcGrps_cons, vcGrps_guard2, vcG2_bool, vcG2_und, vcGB_TT, vcGB_FF, vcGB_TF, vcGB_FT, vcGB_Tdec, vcGB_Fdec, vcOps_nil, vcOps_cons, vcOut, KCall_ret, KCall_pan, skipF_nil, skipF_cons, Qseq_normal, Qseq_ret, Qseq_exit, Qseq_pan, Qblk_normal, Qblk_exit, Qblk_ret, Qblk_pan, Qpan_eq, Qcut_normal, Qcut_exit, Qcut_ret, Qcut_pan, Qloop_normal, Qloop_exit, Qloop_ret, Qloop_pan,
    stepOp, ev, upd_apply, putF, cellsOf, deref, faddrV, mk, abin, abinI, abinS, ibits, aeqb, aun, fldV, idxOf, elems, isPtr, putRef, splice, fillA, rowsA, minV, peqV, elemsA, rowBytes, strOf, Store.get_push, Store.get_set, Store.n_push, Store.n_set,
    Option.map_some, Option.map_none, reduceIte, Nat.reduceEqDiff, Nat.reduceAdd, Nat.reduceLeDiff, Nat.reduceLT, Nat.zero_add, Nat.add_zero, Nat.add_assoc, Nat.add_left_cancel_iff, Nat.left_eq_add, Nat.add_eq_left, Nat.lt_irrefl, Nat.le_refl,
    List.drop_zero, List.drop_succ_cons, List.take_succ_cons, List.take_zero, List.headD_cons, List.length_cons, List.length_nil, List.getElem?_cons_zero, List.getElem?_cons_succ, List.set_cons_zero, List.set_cons_succ, List.map_cons, List.map_nil,
    Bool.not_true, Bool.not_false, Bool.false_eq_true, Bool.true_eq_false, Bool.not_eq_true', Bool.not_eq_false', eq_self, false_imp_iff, true_imp_iff, and_true, true_and, and_false, false_and, or_true, true_or, initFr, fr0_at, Qend, resL, resV1, pack,
    decide_eq_true_eq, decide_eq_false_iff_not, Int.toNat_natCast, Option.some.injEq, exists_eq_left', vc_cond2, vcC2_bool, vcCB_T, vcCB_F, vcCB_dec, decide_true, decide_false]
      exact (hE1.push _).set _ _ (by omega)
  clear f0 f1 f4 f6 f7 fr hE1
  rintro fr T ⟨f0, f1, f4, f6, f7, f9, hE, hTn, hg4, hg9⟩
  -- its content
  have p0 : (0 : Int) ≤ ((headS b).1 : Nat) := by omega
  have p1 : (0 : Int) ≤ (((headS b).1 + (headS b).2.1 : Nat) : Int) := by omega
  have p2 : (headS b).1 ≤ (headS b).1 + (headS b).2.1 := by omega
  have hsl : List.drop (headS b).1 (List.take ((headS b).1 + (headS b).2.1) b) = contB b := rfl
  have hrs : List.drop ((headS b).1 + (headS b).2.1) (List.take b.length b) = restB b := by rw [List.take_length]; rfl
  refine vc_cut (fun fr U => fr 0 = .str b ∧ fr 1 = .int .i64 w ∧ fr 4 = .ptr S.n 0 ∧ fr 6 = .int .i64 ((headS b).1 : Nat) ∧ fr 7 = .int .i64 ((headS b).2.1 : Nat) ∧ fr 9 = .ptr (S.n + 1) 0 ∧ fr 10 = .str (contB b) ∧ T = U) ?_ ?_
  · simp -implicitDefEqProofs only [f0, f1, f4, f6, f7, f9, hwn, p0, p1, p2, hl, hsl, vc_region, vc_quiet, vcD_nil, vcD_val2, vcDO_val, vcDO_asks, vcD_eff, vcD_guard2, vcDG_TT, vcDG_FF, vcDG_TF, vcDG_FT, vcDG_und, vcDG_Tdec, vcDG_Fdec, vcDEff, saysAll, pendAll, pendNext, addPend, Says, vc_bad, vc_seq, vc_ret, vc_skip, vc_block, vc_exit, vcGrps_nil, vcGrps_cons, vcGrps_guard2, vcG2_bool, vcG2_und, vcGB_TT, vcGB_FF, vcGB_TF, vcGB_FT, vcGB_Tdec, vcGB_Fdec, vcOps_nil, vcOps_cons, vcOut, KCall_ret, KCall_pan, skipF_nil, skipF_cons, Qseq_normal, Qseq_ret, Qseq_exit, Qseq_pan, Qblk_normal, Qblk_exit, Qblk_ret, Qblk_pan, Qpan_eq, Qcut_normal, Qcut_exit, Qcut_ret, Qcut_pan, Qloop_normal, Qloop_exit, Qloop_ret, Qloop_pan,
    stepOp, ev, upd_apply, putF, cellsOf, deref, faddrV, mk, abin, abinI, abinS, ibits, aeqb, aun, fldV, idxOf, elems, isPtr, putRef, splice, fillA, rowsA, minV, peqV, elemsA, rowBytes, strOf, Store.get_push, Store.get_set, Store.n_push, Store.n_set,
    Option.map_some, Option.map_none, reduceIte, Nat.reduceEqDiff, Nat.reduceAdd, Nat.reduceLeDiff, Nat.reduceLT, Nat.zero_add, Nat.add_zero, Nat.add_assoc, Nat.add_left_cancel_iff, Nat.left_eq_add, Nat.add_eq_left, Nat.lt_irrefl, Nat.le_refl,
    List.drop_zero, List.drop_succ_cons, List.take_succ_cons, List.take_zero, List.headD_cons, List.length_cons, List.length_nil, List.getElem?_cons_zero, List.getElem?_cons_succ, List.set_cons_zero, List.set_cons_succ, List.map_cons, List.map_nil,
    Bool.not_true, Bool.not_false, Bool.false_eq_true, Bool.true_eq_false, Bool.not_eq_true', Bool.not_eq_false', eq_self, false_imp_iff, true_imp_iff, and_true, true_and, and_false, false_and, or_true, true_or, initFr, fr0_at, Qend, resL, resV1, pack,
    decide_eq_true_eq, decide_eq_false_iff_not, Int.toNat_natCast, Option.some.injEq, exists_eq_left', vc_cond2, vcC2_bool, vcCB_T, vcCB_F, vcCB_dec, decide_true, decide_false]
  clear f0 f1 f4 f6 f7 f9 fr
  rintro fr U ⟨f0, f1, f4, f6, f7, f9, f10, rfl⟩
  -- an element that holds none
  refine vc_cut (fun fr U => fr 0 = .str b ∧ fr 1 = .int .i64 w ∧ fr 4 = .ptr S.n 0 ∧ fr 6 = .int .i64 ((headS b).1 : Nat) ∧ fr 7 = .int .i64 ((headS b).2.1 : Nat) ∧ fr 9 = .ptr (S.n + 1) 0 ∧ fr 10 = .str (contB b) ∧ T = U ∧ consB b = true) ?_ ?_
  · cases hco : consB b
    rotate_left
    · rw [hco] at hg9
      simp -implicitDefEqProofs only [f0, f1, f4, f6, f7, f9, f10, hg4, hg9, vc_region, vc_quiet, vcD_nil, vcD_val2, vcDO_val, vcDO_asks, vcD_eff, vcD_guard2, vcDG_TT, vcDG_FF, vcDG_TF, vcDG_FT, vcDG_und, vcDG_Tdec, vcDG_Fdec, vcDEff, saysAll, pendAll, pendNext, addPend, Says, vc_bad, vc_seq, vc_ret, vc_skip, vc_block, vc_exit, vcGrps_nil, vcGrps_cons, vcGrps_guard2, vcG2_bool, vcG2_und, vcGB_TT, vcGB_FF, vcGB_TF, vcGB_FT, vcGB_Tdec, vcGB_Fdec, vcOps_nil, vcOps_cons, vcOut, KCall_ret, KCall_pan, skipF_nil, skipF_cons, Qseq_normal, Qseq_ret, Qseq_exit, Qseq_pan, Qblk_normal, Qblk_exit, Qblk_ret, Qblk_pan, Qpan_eq, Qcut_normal, Qcut_exit, Qcut_ret, Qcut_pan, Qloop_normal, Qloop_exit, Qloop_ret, Qloop_pan,
    stepOp, ev, upd_apply, putF, cellsOf, deref, faddrV, mk, abin, abinI, abinS, ibits, aeqb, aun, fldV, idxOf, elems, isPtr, putRef, splice, fillA, rowsA, minV, peqV, elemsA, rowBytes, strOf, Store.get_push, Store.get_set, Store.n_push, Store.n_set,
    Option.map_some, Option.map_none, reduceIte, Nat.reduceEqDiff, Nat.reduceAdd, Nat.reduceLeDiff, Nat.reduceLT, Nat.zero_add, Nat.add_zero, Nat.add_assoc, Nat.add_left_cancel_iff, Nat.left_eq_add, Nat.add_eq_left, Nat.lt_irrefl, Nat.le_refl,
    List.drop_zero, List.drop_succ_cons, List.take_succ_cons, List.take_zero, List.headD_cons, List.length_cons, List.length_nil, List.getElem?_cons_zero, List.getElem?_cons_succ, List.set_cons_zero, List.set_cons_succ, List.map_cons, List.map_nil,
    Bool.not_true, Bool.not_false, Bool.false_eq_true, Bool.true_eq_false, Bool.not_eq_true', Bool.not_eq_false', eq_self, false_imp_iff, true_imp_iff, and_true, true_and, and_false, false_and, or_true, true_or, initFr, fr0_at, Qend, resL, resV1, pack,
    decide_eq_true_eq, decide_eq_false_iff_not, Int.toNat_natCast, Option.some.injEq, exists_eq_left', vc_cond2, vcC2_bool, vcCB_T, vcCB_F, vcCB_dec, decide_true, decide_false]
    · rw [hco] at hg9
      have h01 : ¬ S.n = S.n + 1 := by omega
      simp -implicitDefEqProofs only [f0, f1, f4, f6, f7, f9, f10, hg4, hg9, vc_region, vc_quiet, vcD_nil, vcD_val2, vcDO_val, vcDO_asks, vcD_eff, vcD_guard2, vcDG_TT, vcDG_FF, vcDG_TF, vcDG_FT, vcDG_und, vcDG_Tdec, vcDG_Fdec, vcDEff, saysAll, pendAll, pendNext, addPend, Says, vc_bad, vc_seq, vc_ret, vc_skip, vc_block, vc_exit, vcGrps_nil, vcGrps_cons, vcGrps_guard2, vcG2_bool, vcG2_und, vcGB_TT, vcGB_FF, vcGB_TF, vcGB_FT, vcGB_Tdec, vcGB_Fdec, vcOps_nil, vcOps_cons, vcOut, KCall_ret, KCall_pan, skipF_nil, skipF_cons, Qseq_normal, Qseq_ret, Qseq_exit, Qseq_pan, Qblk_normal, Qblk_exit, Qblk_ret, Qblk_pan, Qpan_eq, Qcut_normal, Qcut_exit, Qcut_ret, Qcut_pan, Qloop_normal, Qloop_exit, Qloop_ret, Qloop_pan,
    stepOp, ev, upd_apply, putF, cellsOf, deref, faddrV, mk, abin, abinI, abinS, ibits, aeqb, aun, fldV, idxOf, elems, isPtr, putRef, splice, fillA, rowsA, minV, peqV, elemsA, rowBytes, strOf, Store.get_push, Store.get_set, Store.n_push, Store.n_set,
    Option.map_some, Option.map_none, reduceIte, Nat.reduceEqDiff, Nat.reduceAdd, Nat.reduceLeDiff, Nat.reduceLT, Nat.zero_add, Nat.add_zero, Nat.add_assoc, Nat.add_left_cancel_iff, Nat.left_eq_add, Nat.add_eq_left, Nat.lt_irrefl, Nat.le_refl,
    List.drop_zero, List.drop_succ_cons, List.take_succ_cons, List.take_zero, List.headD_cons, List.length_cons, List.length_nil, List.getElem?_cons_zero, List.getElem?_cons_succ, List.set_cons_zero, List.set_cons_succ, List.map_cons, List.map_nil,
    Bool.not_true, Bool.not_false, Bool.false_eq_true, Bool.true_eq_false, Bool.not_eq_true', Bool.not_eq_false', eq_self, false_imp_iff, true_imp_iff, and_true, true_and, and_false, false_and, or_true, true_or, initFr, fr0_at, Qend, resL, resV1, pack,
    decide_eq_true_eq, decide_eq_false_iff_not, Int.toNat_natCast, Option.some.injEq, exists_eq_left', vc_cond2, vcC2_bool, vcCB_T, vcCB_F, vcCB_dec, decide_true, decide_false]
      refine (c69 (contB b) (by omega)).use ?_
      simp -implicitDefEqProofs only [f0, f1, f4, f6, f7, f9, f10, hg4, hg9, hwn, p0, p1, hl, hrs, h01, Nat.le_refl, Says, pendAll, pendNext, addPend, saysAll, splice, vcDEff, Z5, Qcut_ret, Qend, vc_region, vc_quiet, vcD_nil, vcD_val2, vcDO_val, vcDO_asks, vcD_eff, vcD_guard2, vcDG_TT, vcDG_FF, vcDG_TF, vcDG_FT, vcDG_und, vcDG_Tdec, vcDG_Fdec, vcDEff, saysAll, pendAll, pendNext, addPend, Says, vc_bad, vc_seq, vc_ret, vc_skip, vc_block, vc_exit, vcGrps_nil, vcGrps_cons, vcGrps_guard2, vcG2_bool, vcG2_und, vcGB_TT, vcGB_FF, vcGB_TF, vcGB_FT, vcGB_Tdec, vcGB_Fdec, vcOps_nil, vcOps_cons, vcOut, KCall_ret, KCall_pan, skipF_nil, skipF_cons, Qseq_normal, Qseq_ret, Qseq_exit, Qseq_pan, Qblk_normal, Qblk_exit, Qblk_ret, Qblk_pan, Qpan_eq, Qcut_normal, Qcut_exit, Qcut_ret, Qcut_pan, Qloop_normal, Qloop_exit, Qloop_ret, Qloop_pan,
    stepOp, ev, upd_apply, putF, cellsOf, deref, faddrV, mk, abin, abinI, abinS, ibits, aeqb, aun, fldV, idxOf, elems, isPtr, putRef, splice, fillA, rowsA, minV, peqV, elemsA, rowBytes, strOf, Store.get_push, Store.get_set, Store.n_push, Store.n_set,
    Option.map_some, Option.map_none, reduceIte, Nat.reduceEqDiff, Nat.reduceAdd, Nat.reduceLeDiff, Nat.reduceLT, Nat.zero_add, Nat.add_zero, Nat.add_assoc, Nat.add_left_cancel_iff, Nat.left_eq_add, Nat.add_eq_left, Nat.lt_irrefl, Nat.le_refl,
    List.drop_zero, List.drop_succ_cons, List.take_succ_cons, List.take_zero, List.headD_cons, List.length_cons, List.length_nil, List.getElem?_cons_zero, List.getElem?_cons_succ, List.set_cons_zero, List.set_cons_succ, List.map_cons, List.map_nil,
    Bool.not_true, Bool.not_false, Bool.false_eq_true, Bool.true_eq_false, Bool.not_eq_true', Bool.not_eq_false', eq_self, false_imp_iff, true_imp_iff, and_true, true_and, and_false, false_and, or_true, true_or, initFr, fr0_at, Qend, resL, resV1, pack,
    decide_eq_true_eq, decide_eq_false_iff_not, Int.toNat_natCast, Option.some.injEq, exists_eq_left', vc_cond2, vcC2_bool, vcCB_T, vcCB_F, vcCB_dec, decide_true, decide_false]
      refine ⟨(hE.set _ _ (by omega)).set _ _ (by omega), ?_⟩
      simp only [readF, if_neg he2, if_neg hw2, if_neg hl2, hco, if_true]
      exact .inl ⟨rfl, rfl, rfl⟩
  clear f0 f1 f4 f6 f7 f9 f10 fr
  rintro fr U ⟨f0, f1, f4, f6, f7, f9, f10, rfl, hco⟩
  have hR : readF (f + 1) b w = endK b (kidsF (fun c => readF f c (w + 1)) (contB b).length (contB b)) := by
    simp only [readF, if_neg he2, if_neg hw2, if_neg hl2, hco]; rfl
  rw [hR]
  rw [hco] at hg9
  generalize hkk : kidsF (fun c => readF f c (w + 1)) (contB b).length (contB b) = kk
  have hwp : IntKind.i64.wrap ((w : Int) + 1) = ((w + 1 : Nat) : Int) := by rw [w64 _ (by omega) (by omega)]; omega
  rw [vc_seq, vc_block]
  refine vc_loop (fun g fr U => ∃ (c : List UInt8) (done : List Elem), fr 0 = .str b ∧ fr 1 = .int .i64 w ∧ fr 4 = .ptr S.n 0 ∧ fr 6 = .int .i64 ((headS b).1 : Nat) ∧ fr 7 = .int .i64 ((headS b).2.1 : Nat) ∧ fr 9 = .ptr (S.n + 1) 0 ∧ fr 10 = .str c ∧
    c.length ≤ g ∧ done.length + c.length ≤ (contB b).length ∧ kk = addK done (kidsF (fun c => readF f c (w + 1)) g c) ∧ Ext S U ∧ S.n + 2 ≤ U.n ∧ U.get S.n = some (.box 24 Z5) ∧
    ((done = [] ∧ U.get (S.n + 1) = some (.box 24 [.int .i64 (clsB b), .int .i64 (tagB b), .bool true, .str [], .lit (.slice none 0 0)])) ∨
      ∃ k, S.n + 2 ≤ k ∧ k < U.n ∧ U.get (S.n + 1) = some (.box 24 [.int .i64 (clsB b), .int .i64 (tagB b), .bool true, .str [], .own k 0 done.length]) ∧ U.get k = some (.row 24 5 0 (encEs done)))) (contB b).length
    ⟨contB b, [], f0, f1, f4, f6, f7, f9, f10, Nat.le_refl _, by simp, by rw [hkk]; cases kk <;> rfl, hE, by omega, hg4, .inl ⟨rfl, hg9⟩⟩ ?_
  clear f0 f1 f4 f6 f7 f9 f10 fr hE hg4 hg9 hTn T
  rintro g fr U ⟨c, done, f0, f1, f4, f6, f7, f9, f10, hcg, hdl, hkd, hE, hUn, hg4, hrow⟩
  by_cases hc0 : c = []
  · -- all is read
    subst hc0
    have hkk2 : kk = .ok done := by
      rw [hkd]
      have : kidsF (fun c => readF f c (w + 1)) g [] = .ok [] := by cases g <;> simp [kidsF]
      rw [this]; simp [addK]
    rw [hkk2]
    have h01 : ¬ S.n = S.n + 1 := by omega
    rcases hrow with ⟨rfl, hg9⟩ | ⟨k, hk, hkU, hg9, hrow⟩
    · simp -implicitDefEqProofs only [f0, f1, f4, f6, f7, f9, f10, hg4, hg9, hwn, p0, p1, hl, hrs, h01, Nat.le_refl, Says, pendAll, pendNext, addPend, saysAll, splice, vcDEff, Z5, ne_eq, not_true, Qend, vc_region, vc_quiet, vcD_nil, vcD_val2, vcDO_val, vcDO_asks, vcD_eff, vcD_guard2, vcDG_TT, vcDG_FF, vcDG_TF, vcDG_FT, vcDG_und, vcDG_Tdec, vcDG_Fdec, vcDEff, saysAll, pendAll, pendNext, addPend, Says, vc_bad, vc_seq, vc_ret, vc_skip, vc_block, vc_exit, vcGrps_nil, vcGrps_cons, vcGrps_guard2, vcG2_bool, vcG2_und, vcGB_TT, vcGB_FF, vcGB_TF, vcGB_FT, vcGB_Tdec, vcGB_Fdec, vcOps_nil, vcOps_cons, vcOut, KCall_ret, KCall_pan, skipF_nil, skipF_cons, Qseq_normal, Qseq_ret, Qseq_exit, Qseq_pan, Qblk_normal, Qblk_exit, Qblk_ret, Qblk_pan, Qpan_eq, Qcut_normal, Qcut_exit, Qcut_ret, Qcut_pan, Qloop_normal, Qloop_exit, Qloop_ret, Qloop_pan,
    stepOp, ev, upd_apply, putF, cellsOf, deref, faddrV, mk, abin, abinI, abinS, ibits, aeqb, aun, fldV, idxOf, elems, isPtr, putRef, splice, fillA, rowsA, minV, peqV, elemsA, rowBytes, strOf, Store.get_push, Store.get_set, Store.n_push, Store.n_set,
    Option.map_some, Option.map_none, reduceIte, Nat.reduceEqDiff, Nat.reduceAdd, Nat.reduceLeDiff, Nat.reduceLT, Nat.zero_add, Nat.add_zero, Nat.add_assoc, Nat.add_left_cancel_iff, Nat.left_eq_add, Nat.add_eq_left, Nat.lt_irrefl, Nat.le_refl,
    List.drop_zero, List.drop_succ_cons, List.take_succ_cons, List.take_zero, List.headD_cons, List.length_cons, List.length_nil, List.getElem?_cons_zero, List.getElem?_cons_succ, List.set_cons_zero, List.set_cons_succ, List.map_cons, List.map_nil,
    Bool.not_true, Bool.not_false, Bool.false_eq_true, Bool.true_eq_false, Bool.not_eq_true', Bool.not_eq_false', eq_self, false_imp_iff, true_imp_iff, and_true, true_and, and_false, false_and, or_true, true_or, initFr, fr0_at, Qend, resL, resV1, pack,
    decide_eq_true_eq, decide_eq_false_iff_not, Int.toNat_natCast, Option.some.injEq, exists_eq_left', vc_cond2, vcC2_bool, vcCB_T, vcCB_F, vcCB_dec, decide_true, decide_false]
      exact ⟨hE.set _ _ (by omega), .inl ⟨rfl, rfl, rfl⟩⟩
    · have hk1 : ¬ k = S.n := by omega
      simp -implicitDefEqProofs only [f0, f1, f4, f6, f7, f9, f10, hg4, hg9, hwn, p0, p1, hl, hrs, h01, Nat.le_refl, Says, pendAll, pendNext, addPend, saysAll, splice, vcDEff, Z5, ne_eq, not_true, Qend, vc_region, vc_quiet, vcD_nil, vcD_val2, vcDO_val, vcDO_asks, vcD_eff, vcD_guard2, vcDG_TT, vcDG_FF, vcDG_TF, vcDG_FT, vcDG_und, vcDG_Tdec, vcDG_Fdec, vcDEff, saysAll, pendAll, pendNext, addPend, Says, vc_bad, vc_seq, vc_ret, vc_skip, vc_block, vc_exit, vcGrps_nil, vcGrps_cons, vcGrps_guard2, vcG2_bool, vcG2_und, vcGB_TT, vcGB_FF, vcGB_TF, vcGB_FT, vcGB_Tdec, vcGB_Fdec, vcOps_nil, vcOps_cons, vcOut, KCall_ret, KCall_pan, skipF_nil, skipF_cons, Qseq_normal, Qseq_ret, Qseq_exit, Qseq_pan, Qblk_normal, Qblk_exit, Qblk_ret, Qblk_pan, Qpan_eq, Qcut_normal, Qcut_exit, Qcut_ret, Qcut_pan, Qloop_normal, Qloop_exit, Qloop_ret, Qloop_pan,
    stepOp, ev, upd_apply, putF, cellsOf, deref, faddrV, mk, abin, abinI, abinS, ibits, aeqb, aun, fldV, idxOf, elems, isPtr, putRef, splice, fillA, rowsA, minV, peqV, elemsA, rowBytes, strOf, Store.get_push, Store.get_set, Store.n_push, Store.n_set,
    Option.map_some, Option.map_none, reduceIte, Nat.reduceEqDiff, Nat.reduceAdd, Nat.reduceLeDiff, Nat.reduceLT, Nat.zero_add, Nat.add_zero, Nat.add_assoc, Nat.add_left_cancel_iff, Nat.left_eq_add, Nat.add_eq_left, Nat.lt_irrefl, Nat.le_refl,
    List.drop_zero, List.drop_succ_cons, List.take_succ_cons, List.take_zero, List.headD_cons, List.length_cons, List.length_nil, List.getElem?_cons_zero, List.getElem?_cons_succ, List.set_cons_zero, List.set_cons_succ, List.map_cons, List.map_nil,
    Bool.not_true, Bool.not_false, Bool.false_eq_true, Bool.true_eq_false, Bool.not_eq_true', Bool.not_eq_false', eq_self, false_imp_iff, true_imp_iff, and_true, true_and, and_false, false_and, or_true, true_or, initFr, fr0_at, Qend, resL, resV1, pack,
    decide_eq_true_eq, decide_eq_false_iff_not, Int.toNat_natCast, Option.some.injEq, exists_eq_left', vc_cond2, vcC2_bool, vcCB_T, vcCB_F, vcCB_dec, decide_true, decide_false]
      exact ⟨hE.set _ _ (by omega), .inr ⟨k, by omega, rfl, rfl, by rw [Store.get_set_ne _ _ hk1]; exact hrow⟩⟩
  · -- one more
    obtain ⟨g, rfl⟩ : ∃ g', g = g' + 1 := ⟨g - 1, by have := List.length_pos_iff.2 hc0; omega⟩
    simp -implicitDefEqProofs only [f0, f1, f4, f6, f7, f9, f10, hc0, hwp, ne_eq, not_false_eq_true, vc_region, vc_quiet, vcD_nil, vcD_val2, vcDO_val, vcDO_asks, vcD_eff, vcD_guard2, vcDG_TT, vcDG_FF, vcDG_TF, vcDG_FT, vcDG_und, vcDG_Tdec, vcDG_Fdec, vcDEff, saysAll, pendAll, pendNext, addPend, Says, vc_bad, vc_seq, vc_ret, vc_skip, vc_block, vc_exit, vcGrps_nil, vcGrps_cons, vcGrps_guard2, vcG2_bool, vcG2_und, vcGB_TT, vcGB_FF, vcGB_TF, vcGB_FT, vcGB_Tdec, vcGB_Fdec, vcOps_nil, vcOps_cons, vcOut, KCall_ret, KCall_pan, skipF_nil, skipF_cons, Qseq_normal, Qseq_ret, Qseq_exit, Qseq_pan, Qblk_normal, Qblk_exit, Qblk_ret, Qblk_pan, Qpan_eq, Qcut_normal, Qcut_exit, Qcut_ret, Qcut_pan, Qloop_normal, Qloop_exit, Qloop_ret, Qloop_pan,
    stepOp, ev, upd_apply, putF, cellsOf, deref, faddrV, mk, abin, abinI, abinS, ibits, aeqb, aun, fldV, idxOf, elems, isPtr, putRef, splice, fillA, rowsA, minV, peqV, elemsA, rowBytes, strOf, Store.get_push, Store.get_set, Store.n_push, Store.n_set,
    Option.map_some, Option.map_none, reduceIte, Nat.reduceEqDiff, Nat.reduceAdd, Nat.reduceLeDiff, Nat.reduceLT, Nat.zero_add, Nat.add_zero, Nat.add_assoc, Nat.add_left_cancel_iff, Nat.left_eq_add, Nat.add_eq_left, Nat.lt_irrefl, Nat.le_refl,
    List.drop_zero, List.drop_succ_cons, List.take_succ_cons, List.take_zero, List.headD_cons, List.length_cons, List.length_nil, List.getElem?_cons_zero, List.getElem?_cons_succ, List.set_cons_zero, List.set_cons_succ, List.map_cons, List.map_nil,
    Bool.not_true, Bool.not_false, Bool.false_eq_true, Bool.true_eq_false, Bool.not_eq_true', Bool.not_eq_false', eq_self, false_imp_iff, true_imp_iff, and_true, true_and, and_false, false_and, or_true, true_or, initFr, fr0_at, Qend, resL, resV1, pack,
    decide_eq_true_eq, decide_eq_false_iff_not, Int.toNat_natCast, Option.some.injEq, exists_eq_left', vc_cond2, vcC2_bool, vcCB_T, vcCB_F, vcCB_dec, decide_true, decide_false]
    refine (ih c (w + 1) (by omega) (by omega) _).mono ?_
    rintro r U2 ⟨rfl, rfl⟩
    simp only [kidsF, if_neg hc0] at hkd
    have hU1 : ¬ S.n + 1 = U.n := by omega
    have hU0 : ¬ S.n = U.n := by omega
    have hU2 : ¬ S.n = U.n + 1 := by omega
    cases hrd : readF f c (w + 1) with
    | err n =>
      rw [hrd] at hkd
      simp only [addK] at hkd
      rw [hkd]
      simp -implicitDefEqProofs only [resV, Qend, vc_region, vc_quiet, vcD_nil, vcD_val2, vcDO_val, vcDO_asks, vcD_eff, vcD_guard2, vcDG_TT, vcDG_FF, vcDG_TF, vcDG_FT, vcDG_und, vcDG_Tdec, vcDG_Fdec, vcDEff, saysAll, pendAll, pendNext, addPend, Says, vc_bad, vc_seq, vc_ret, vc_skip, vc_block, vc_exit, vcGrps_nil, vcGrps_cons, vcGrps_guard2, vcG2_bool, vcG2_und, vcGB_TT, vcGB_FF, vcGB_TF, vcGB_FT, vcGB_Tdec, vcGB_Fdec, vcOps_nil, vcOps_cons, vcOut, KCall_ret, KCall_pan, skipF_nil, skipF_cons, Qseq_normal, Qseq_ret, Qseq_exit, Qseq_pan, Qblk_normal, Qblk_exit, Qblk_ret, Qblk_pan, Qpan_eq, Qcut_normal, Qcut_exit, Qcut_ret, Qcut_pan, Qloop_normal, Qloop_exit, Qloop_ret, Qloop_pan,
    stepOp, ev, upd_apply, putF, cellsOf, deref, faddrV, mk, abin, abinI, abinS, ibits, aeqb, aun, fldV, idxOf, elems, isPtr, putRef, splice, fillA, rowsA, minV, peqV, elemsA, rowBytes, strOf, Store.get_push, Store.get_set, Store.n_push, Store.n_set,
    Option.map_some, Option.map_none, reduceIte, Nat.reduceEqDiff, Nat.reduceAdd, Nat.reduceLeDiff, Nat.reduceLT, Nat.zero_add, Nat.add_zero, Nat.add_assoc, Nat.add_left_cancel_iff, Nat.left_eq_add, Nat.add_eq_left, Nat.lt_irrefl, Nat.le_refl,
    List.drop_zero, List.drop_succ_cons, List.take_succ_cons, List.take_zero, List.headD_cons, List.length_cons, List.length_nil, List.getElem?_cons_zero, List.getElem?_cons_succ, List.set_cons_zero, List.set_cons_succ, List.map_cons, List.map_nil,
    Bool.not_true, Bool.not_false, Bool.false_eq_true, Bool.true_eq_false, Bool.not_eq_true', Bool.not_eq_false', eq_self, false_imp_iff, true_imp_iff, and_true, true_and, and_false, false_and, or_true, true_or, initFr, fr0_at, Qend, resL, resV1, pack,
    decide_eq_true_eq, decide_eq_false_iff_not, Int.toNat_natCast, Option.some.injEq, exists_eq_left', vc_cond2, vcC2_bool, vcCB_T, vcCB_F, vcCB_dec, decide_true, decide_false]
      exact ⟨hE.push _, rfl⟩
    | ok x rest =>
      rw [hrd] at hkd
      obtain ⟨_, _, _, _, hrl⟩ := readF_ok hrd
      have hadd : addK done (match kidsF (fun c => readF f c (w + 1)) g rest with | .err n => .err n | .ok ks => .ok (x :: ks)) = addK (done ++ [x]) (kidsF (fun c => readF f c (w + 1)) g rest) := by
        cases kidsF (fun c => readF f c (w + 1)) g rest <;> simp [addK]
      have hkd' := hkd.trans hadd
      have hxd : (encE x).length = 5 := encE_length x
      rcases hrow with ⟨rfl, hg9⟩ | ⟨k, hk, hkU, hg9, hrow⟩
      · simp -implicitDefEqProofs only [resV, f0, f1, f4, f6, f7, f9, f10, hg9, hU0, hU1, hU2, encE_length, encE_take5, splice_encE, splice, vc_region, vc_quiet, vcD_nil, vcD_val2, vcDO_val, vcDO_asks, vcD_eff, vcD_guard2, vcDG_TT, vcDG_FF, vcDG_TF, vcDG_FT, vcDG_und, vcDG_Tdec, vcDG_Fdec, vcDEff, saysAll, pendAll, pendNext, addPend, Says, vc_bad, vc_seq, vc_ret, vc_skip, vc_block, vc_exit, vcGrps_nil, vcGrps_cons, vcGrps_guard2, vcG2_bool, vcG2_und, vcGB_TT, vcGB_FF, vcGB_TF, vcGB_FT, vcGB_Tdec, vcGB_Fdec, vcOps_nil, vcOps_cons, vcOut, KCall_ret, KCall_pan, skipF_nil, skipF_cons, Qseq_normal, Qseq_ret, Qseq_exit, Qseq_pan, Qblk_normal, Qblk_exit, Qblk_ret, Qblk_pan, Qpan_eq, Qcut_normal, Qcut_exit, Qcut_ret, Qcut_pan, Qloop_normal, Qloop_exit, Qloop_ret, Qloop_pan,
    stepOp, ev, upd_apply, putF, cellsOf, deref, faddrV, mk, abin, abinI, abinS, ibits, aeqb, aun, fldV, idxOf, elems, isPtr, putRef, splice, fillA, rowsA, minV, peqV, elemsA, rowBytes, strOf, Store.get_push, Store.get_set, Store.n_push, Store.n_set,
    Option.map_some, Option.map_none, reduceIte, Nat.reduceEqDiff, Nat.reduceAdd, Nat.reduceLeDiff, Nat.reduceLT, Nat.zero_add, Nat.add_zero, Nat.add_assoc, Nat.add_left_cancel_iff, Nat.left_eq_add, Nat.add_eq_left, Nat.lt_irrefl, Nat.le_refl,
    List.drop_zero, List.drop_succ_cons, List.take_succ_cons, List.take_zero, List.headD_cons, List.length_cons, List.length_nil, List.getElem?_cons_zero, List.getElem?_cons_succ, List.set_cons_zero, List.set_cons_succ, List.map_cons, List.map_nil,
    Bool.not_true, Bool.not_false, Bool.false_eq_true, Bool.true_eq_false, Bool.not_eq_true', Bool.not_eq_false', eq_self, false_imp_iff, true_imp_iff, and_true, true_and, and_false, false_and, or_true, true_or, initFr, fr0_at, Qend, resL, resV1, pack,
    decide_eq_true_eq, decide_eq_false_iff_not, Int.toNat_natCast, Option.some.injEq, exists_eq_left', vc_cond2, vcC2_bool, vcCB_T, vcCB_F, vcCB_dec, decide_true, decide_false]
        refine ⟨by omega, g, by omega, rest, [x], rfl, by omega, by simp at hdl ⊢; omega, hkd', (((hE.push _).set _ _ hE.n).push _).set _ _ (by omega), by omega, hg4, .inr ⟨U.n + 1, by omega, by omega, rfl, ?_⟩⟩
        rw [if_neg (by omega), if_pos rfl]; rfl
      · have hk1 : ¬ k = U.n := by omega
        have hk2 : ¬ k = U.n + 1 := by omega
        have hk3 : ¬ S.n + 1 = k := by omega
        have hk4 : ¬ S.n = k := by omega
        simp -implicitDefEqProofs only [resV, f0, f1, f4, f6, f7, f9, f10, hg9, hrow, hU0, hU1, hU2, hk1, hk2, hk3, hk4, encEs_length, encE_length, encE_take5, splice_encE, splice, vc_region, vc_quiet, vcD_nil, vcD_val2, vcDO_val, vcDO_asks, vcD_eff, vcD_guard2, vcDG_TT, vcDG_FF, vcDG_TF, vcDG_FT, vcDG_und, vcDG_Tdec, vcDG_Fdec, vcDEff, saysAll, pendAll, pendNext, addPend, Says, vc_bad, vc_seq, vc_ret, vc_skip, vc_block, vc_exit, vcGrps_nil, vcGrps_cons, vcGrps_guard2, vcG2_bool, vcG2_und, vcGB_TT, vcGB_FF, vcGB_TF, vcGB_FT, vcGB_Tdec, vcGB_Fdec, vcOps_nil, vcOps_cons, vcOut, KCall_ret, KCall_pan, skipF_nil, skipF_cons, Qseq_normal, Qseq_ret, Qseq_exit, Qseq_pan, Qblk_normal, Qblk_exit, Qblk_ret, Qblk_pan, Qpan_eq, Qcut_normal, Qcut_exit, Qcut_ret, Qcut_pan, Qloop_normal, Qloop_exit, Qloop_ret, Qloop_pan,
    stepOp, ev, upd_apply, putF, cellsOf, deref, faddrV, mk, abin, abinI, abinS, ibits, aeqb, aun, fldV, idxOf, elems, isPtr, putRef, splice, fillA, rowsA, minV, peqV, elemsA, rowBytes, strOf, Store.get_push, Store.get_set, Store.n_push, Store.n_set,
    Option.map_some, Option.map_none, reduceIte, Nat.reduceEqDiff, Nat.reduceAdd, Nat.reduceLeDiff, Nat.reduceLT, Nat.zero_add, Nat.add_zero, Nat.add_assoc, Nat.add_left_cancel_iff, Nat.left_eq_add, Nat.add_eq_left, Nat.lt_irrefl, Nat.le_refl,
    List.drop_zero, List.drop_succ_cons, List.take_succ_cons, List.take_zero, List.headD_cons, List.length_cons, List.length_nil, List.getElem?_cons_zero, List.getElem?_cons_succ, List.set_cons_zero, List.set_cons_succ, List.map_cons, List.map_nil,
    Bool.not_true, Bool.not_false, Bool.false_eq_true, Bool.true_eq_false, Bool.not_eq_true', Bool.not_eq_false', eq_self, false_imp_iff, true_imp_iff, and_true, true_and, and_false, false_and, or_true, true_or, initFr, fr0_at, Qend, resL, resV1, pack,
    decide_eq_true_eq, decide_eq_false_iff_not, Int.toNat_natCast, Option.some.injEq, exists_eq_left', vc_cond2, vcC2_bool, vcCB_T, vcCB_F, vcCB_dec, decide_true, decide_false]
        have hlx : (done ++ [x]).length = done.length + 1 := by simp
        refine ⟨by omega, g, by omega, rest, done ++ [x], rfl, by omega, by rw [hlx]; omega, hkd', ((((hE.push _).set _ _ hE.n).set _ _ (by omega)).push _).set _ _ (by omega), by omega, hg4, .inr ⟨U.n + 1, by omega, by omega, by rw [hlx], ?_⟩⟩
        rw [if_neg (by omega), if_pos rfl, encEs_app]; rfl
end Go.Proofs.Ytmlllckecalaaaa.Eng

namespace Go.Proofs.Ytmlllckecalaaaa.Eng
open Go Go.Proofs.Try

/-- A value is told that stands for `v`, or a row of one's own with it. -/
def outK (S : Store) (v : AV) (r : AEnd) (S' : Store) : Prop := Ext S S' ∧ ((∃ v0, r = .ret v0 ∧ Wk v0 v) ∨
  ∃ (k t s frz : Nat) (es : List (List AV)) (v0 : AV), S.n ≤ k ∧ r = .ret v0 ∧ S'.get k = some (.row t s frz es) ∧ fzOk k es.length v0 ∧ fz k s es v0 = v)
theorem Pure.out {P : Program} {f : FuncId} {args : List AV} {v : AV} (hn : ∀ n, nm n v) (h : ∀ S, ACalls P f args S (outK S v)) : Pure P f args v := fun S => by
  refine ACalls.wf fun hwf _ => (h S).turn fun r S' ⟨h1, h2⟩ => ?_
  have hreset : ∀ (T : Store), Ext S T → Turn S.n [v] T [v] S := fun T hE => Turn.reset hE.n (Nat.le_refl _) (fun l o e => by
    obtain ⟨a1, a2⟩ := hwf l o e
    exact ⟨by rw [hE.get l a1]; exact e, a1, a2⟩) (by simp only [nmL]; exact ⟨hn _, trivial⟩)
  refine ⟨v, S, ?_, ?_⟩
  rotate_left
  · rcases h2 with ⟨v0, rfl, _⟩ | ⟨k, t, s, frz, es, v0, _, rfl, _⟩ <;> exact ⟨rfl, rfl⟩
  rcases h2 with ⟨v0, rfl, hw⟩ | ⟨k, t, s, frz, es, v0, hk, rfl, hrow, hok, hv⟩
  · exact Turn.trans (Turn.weak (.cons hw .nil)) (hreset _ h1)
  · have t1 := Turn.freeze (n0 := S.n) (vs := [v0]) hrow (by simp only [fzOkL, and_true]; exact hok)
    simp only [fzL, hv] at t1
    exact Turn.trans t1 (hreset _ (h1.set _ _ hk))

theorem kidsF_err {rd : List UInt8 → RR} (h : ∀ c n, rd c = .err n → n ≠ 0 ∧ n < 100) : ∀ (g : Nat) (c : List UInt8) (n : Nat), kidsF rd g c = .err n → n ≠ 0 ∧ n < 100
  | 0, c, n, hk => by simp [kidsF] at hk
  | g + 1, c, n, hk => by
    simp only [kidsF] at hk
    split at hk
    · cases hk
    · split at hk
      · rename_i e he; cases hk; exact h _ _ he
      · split at hk
        · rename_i e he; cases hk; exact kidsF_err h g _ _ he
        · cases hk
theorem readF_err : ∀ (f : Nat) (b : List UInt8) (w : Nat) (n : Nat), readF f b w = .err n → n ≠ 0 ∧ n < 100
  | 0, b, w, n, h => by simp only [readF] at h; cases h; omega
  | f + 1, b, w, n, h => by
    simp only [readF] at h
    split at h
    · rename_i h1; cases h; have := (headS_lt b).2.2.1; omega
    split at h
    · cases h; omega
    split at h
    · cases h; omega
    split at h
    · cases h
    · generalize hk : kidsF _ _ _ = kk at h
      cases kk with
      | err e => simp only [endK] at h; cases h; exact kidsF_err (fun c n hc => readF_err f c (w + 1) n hc) _ _ _ hk
      | ok ks => cases h

def zE : Elem := .mk 0 0 false [] [] []
def tkV (b : List UInt8) : RR → AV
  | .err n => .tup [.agg (encE zE), .int .i64 0, .int .i64 (n : Nat)]
  | .ok x r => .tup [.agg (encE x), .int .i64 ((headS b).1 + (headS b).2.1 : Nat), .int .i64 0]
theorem wk_z (n : Int) : Wk (.tup [.agg Z5, .int .i64 0, .int .i64 n]) (.tup [.agg (encE zE), .int .i64 0, .int .i64 n]) :=
  Wk.tup (.cons (Wk.agg (.cons (Wk.refl _) (.cons (Wk.refl _) (.cons (Wk.refl _) (.cons (Wk.refl _) (.cons (Wk.nil 5) .nil)))))) (WkL.refl _))
theorem tq64 (n : Nat) : (n : Int).tdiv 64 = ((n / 64 : Nat) : Int) := u8q n 64 (by omega)
theorem tq32 (n : Nat) : (n : Int).tdiv 32 = ((n / 32 : Nat) : Int) := u8q n 32 (by omega)
theorem tm2 (n : Nat) : (n : Int).tmod 2 = ((n % 2 : Nat) : Int) := u8m n 2
theorem w8n (n : Nat) (h : n < 256) : IntKind.u8.wrap (n : Int) = n := by rw [IntKind.wrap_u8]; omega

theorem c63 (f : Nat) : ∀ (b : List UInt8) (w : Nat), b.length < f → w ≤ 20 → Pure prog 63 [.str b, .int .i64 w] (tkV b (readF f b w)) := by
  induction f with
  | zero => intro b w h; omega
  | succ f ih =>
  intro b w hf hw
  refine Pure.out (fun n => by
    cases h : readF (f + 1) b w with
    | err e => simp only [tkV, nm, nmL, and_true, zE, encE, encEs, List.append_nil, nmLL]
    | ok x r => simp only [tkV, nm, nmL, and_true]; exact readF_bare _ _ _ _ _ h n) fun S => acalls_of_vc low63 (by simp) ?_
  obtain ⟨hd1, hd2, hd3, hd4⟩ := headS_lt b
  unfold B63
  refine vc_cut (fun fr T => fr 0 = .str b ∧ fr 1 = .int .i64 w ∧ fr 4 = .ptr S.n 0 ∧ S.push (.box 24 Z5) = T) (by simp -implicitDefEqProofs only [vc_region, vc_quiet, vcD_nil, vcD_val2, vcDO_val, vcDO_asks, vcD_eff, vcD_guard2, vcDG_TT, vcDG_FF, vcDG_TF, vcDG_FT, vcDG_und, vcDG_Tdec, vcDG_Fdec, vcDEff, saysAll, pendAll, pendNext, addPend, Says, vc_bad, vc_seq, vc_ret, vc_skip, vc_block, vc_exit, vcGrps_nil, vcGrps_cons, vcGrps_guard2, vcG2_bool, vcG2_und, vcGB_TT, vcGB_FF, vcGB_TF, vcGB_FT, vcGB_Tdec, vcGB_Fdec, vcOps_nil, vcOps_cons, vcOut, KCall_ret, KCall_pan, skipF_nil, skipF_cons, Qseq_normal, Qseq_ret, Qseq_exit, Qseq_pan, Qblk_normal, Qblk_exit, Qblk_ret, Qblk_pan, Qpan_eq, Qcut_normal, Qcut_exit, Qcut_ret, Qcut_pan, Qloop_normal, Qloop_exit, Qloop_ret, Qloop_pan,
    stepOp, ev, upd_apply, putF, cellsOf, deref, faddrV, mk, abin, abinI, abinS, ibits, aeqb, aun, fldV, idxOf, elems, isPtr, putRef, splice, fillA, rowsA, minV, peqV, elemsA, rowBytes, strOf, Store.get_push, Store.get_set, Store.n_push, Store.n_set,
    Option.map_some, Option.map_none, reduceIte, Nat.reduceEqDiff, Nat.reduceAdd, Nat.reduceLeDiff, Nat.reduceLT, Nat.zero_add, Nat.add_zero, Nat.add_assoc, Nat.add_left_cancel_iff, Nat.left_eq_add, Nat.add_eq_left, Nat.lt_irrefl, Nat.le_refl,
    List.drop_zero, List.drop_succ_cons, List.take_succ_cons, List.take_zero, List.headD_cons, List.length_cons, List.length_nil, List.getElem?_cons_zero, List.getElem?_cons_succ, List.set_cons_zero, List.set_cons_succ, List.map_cons, List.map_nil,
    Bool.not_true, Bool.not_false, Bool.false_eq_true, Bool.true_eq_false, Bool.not_eq_true', Bool.not_eq_false', eq_self, false_imp_iff, true_imp_iff, and_true, true_and, and_false, false_and, or_true, true_or, initFr, fr0_at, Qend, resL, resV1, pack,
    decide_eq_true_eq, decide_eq_false_iff_not, Int.toNat_natCast, Option.some.injEq, exists_eq_left', vc_cond2, vcC2_bool, vcCB_T, vcCB_F, vcCB_dec, decide_true, decide_false]; rfl) ?_
  rintro fr T ⟨f0, f1, f4, rfl⟩
  refine vc_cut (fun fr T => fr 0 = .str b ∧ fr 1 = .int .i64 w ∧ fr 4 = .ptr S.n 0 ∧ S.push (.box 24 Z5) = T ∧ fr 7 = .int .i64 ((frameS b).1 : Nat) ∧ fr 8 = .int .i64 ((frameS b).2 : Nat)) ?_ ?_
  · simp -implicitDefEqProofs only [f0, f1, f4, vc_region, vc_quiet, vcD_nil, vcD_val2, vcDO_val, vcDO_asks, vcD_eff, vcD_guard2, vcDG_TT, vcDG_FF, vcDG_TF, vcDG_FT, vcDG_und, vcDG_Tdec, vcDG_Fdec, vcDEff, saysAll, pendAll, pendNext, addPend, Says, vc_bad, vc_seq, vc_ret, vc_skip, vc_block, vc_exit, vcGrps_nil, vcGrps_cons, vcGrps_guard2, vcG2_bool, vcG2_und, vcGB_TT, vcGB_FF, vcGB_TF, vcGB_FT, vcGB_Tdec, vcGB_Fdec, vcOps_nil, vcOps_cons, vcOut, KCall_ret, KCall_pan, skipF_nil, skipF_cons, Qseq_normal, Qseq_ret, Qseq_exit, Qseq_pan, Qblk_normal, Qblk_exit, Qblk_ret, Qblk_pan, Qpan_eq, Qcut_normal, Qcut_exit, Qcut_ret, Qcut_pan, Qloop_normal, Qloop_exit, Qloop_ret, Qloop_pan,
    stepOp, ev, upd_apply, putF, cellsOf, deref, faddrV, mk, abin, abinI, abinS, ibits, aeqb, aun, fldV, idxOf, elems, isPtr, putRef, splice, fillA, rowsA, minV, peqV, elemsA, rowBytes, strOf, Store.get_push, Store.get_set, Store.n_push, Store.n_set,
    Option.map_some, Option.map_none, reduceIte, Nat.reduceEqDiff, Nat.reduceAdd, Nat.reduceLeDiff, Nat.reduceLT, Nat.zero_add, Nat.add_zero, Nat.add_assoc, Nat.add_left_cancel_iff, Nat.left_eq_add, Nat.add_eq_left, Nat.lt_irrefl, Nat.le_refl,
    List.drop_zero, List.drop_succ_cons, List.take_succ_cons, List.take_zero, List.headD_cons, List.length_cons, List.length_nil, List.getElem?_cons_zero, List.getElem?_cons_succ, List.set_cons_zero, List.set_cons_succ, List.map_cons, List.map_nil,
    Bool.not_true, Bool.not_false, Bool.false_eq_true, Bool.true_eq_false, Bool.not_eq_true', Bool.not_eq_false', eq_self, false_imp_iff, true_imp_iff, and_true, true_and, and_false, false_and, or_true, true_or, initFr, fr0_at, Qend, resL, resV1, pack,
    decide_eq_true_eq, decide_eq_false_iff_not, Int.toNat_natCast, Option.some.injEq, exists_eq_left', vc_cond2, vcC2_bool, vcCB_T, vcCB_F, vcCB_dec, decide_true, decide_false]
    refine (c39 b).use ?_
    simp -implicitDefEqProofs only [f0, f1, f4, vc_region, vc_quiet, vcD_nil, vcD_val2, vcDO_val, vcDO_asks, vcD_eff, vcD_guard2, vcDG_TT, vcDG_FF, vcDG_TF, vcDG_FT, vcDG_und, vcDG_Tdec, vcDG_Fdec, vcDEff, saysAll, pendAll, pendNext, addPend, Says, vc_bad, vc_seq, vc_ret, vc_skip, vc_block, vc_exit, vcGrps_nil, vcGrps_cons, vcGrps_guard2, vcG2_bool, vcG2_und, vcGB_TT, vcGB_FF, vcGB_TF, vcGB_FT, vcGB_Tdec, vcGB_Fdec, vcOps_nil, vcOps_cons, vcOut, KCall_ret, KCall_pan, skipF_nil, skipF_cons, Qseq_normal, Qseq_ret, Qseq_exit, Qseq_pan, Qblk_normal, Qblk_exit, Qblk_ret, Qblk_pan, Qpan_eq, Qcut_normal, Qcut_exit, Qcut_ret, Qcut_pan, Qloop_normal, Qloop_exit, Qloop_ret, Qloop_pan,
    stepOp, ev, upd_apply, putF, cellsOf, deref, faddrV, mk, abin, abinI, abinS, ibits, aeqb, aun, fldV, idxOf, elems, isPtr, putRef, splice, fillA, rowsA, minV, peqV, elemsA, rowBytes, strOf, Store.get_push, Store.get_set, Store.n_push, Store.n_set,
    Option.map_some, Option.map_none, reduceIte, Nat.reduceEqDiff, Nat.reduceAdd, Nat.reduceLeDiff, Nat.reduceLT, Nat.zero_add, Nat.add_zero, Nat.add_assoc, Nat.add_left_cancel_iff, Nat.left_eq_add, Nat.add_eq_left, Nat.lt_irrefl, Nat.le_refl,
    List.drop_zero, List.drop_succ_cons, List.take_succ_cons, List.take_zero, List.headD_cons, List.length_cons, List.length_nil, List.getElem?_cons_zero, List.getElem?_cons_succ, List.set_cons_zero, List.set_cons_succ, List.map_cons, List.map_nil,
    Bool.not_true, Bool.not_false, Bool.false_eq_true, Bool.true_eq_false, Bool.not_eq_true', Bool.not_eq_false', eq_self, false_imp_iff, true_imp_iff, and_true, true_and, and_false, false_and, or_true, true_or, initFr, fr0_at, Qend, resL, resV1, pack,
    decide_eq_true_eq, decide_eq_false_iff_not, Int.toNat_natCast, Option.some.injEq, exists_eq_left', vc_cond2, vcC2_bool, vcCB_T, vcCB_F, vcCB_dec, decide_true, decide_false]
  unfold frameS
  clear f0 f1 f4 fr
  rintro fr T ⟨f0, f1, f4, rfl, f7, f8⟩
  have hE1 := (Ext.refl S).push (.box 24 Z5)
  have hg : (S.push (.box 24 Z5)).get S.n = some (.box 24 Z5) := Store.get_push_same _ _
  have hz : splice Z5 0 [.int .i64 0, .int .i64 0, .bool false, .str [], .lit (.slice none 0 0)] = Z5 := rfl
  have hZ5 : Z5.length = 5 := rfl
  -- the first error
  refine vc_cut (fun fr T => fr 0 = .str b ∧ fr 1 = .int .i64 w ∧ fr 4 = .ptr S.n 0 ∧ S.push (.box 24 Z5) = T ∧ fr 7 = .int .i64 ((headS b).1 + (headS b).2.1 : Nat) ∧ (headS b).2.2 = 0) ?_ ?_
  · by_cases he : (headS b).2.2 = 0
    · have he' : (((headS b).2.2 : Nat) : Int) = 0 := by omega
      simp -implicitDefEqProofs only [f0, f1, f4, f7, f8, he', ne_eq, not_true, not_false_eq_true, vc_region, vc_quiet, vcD_nil, vcD_val2, vcDO_val, vcDO_asks, vcD_eff, vcD_guard2, vcDG_TT, vcDG_FF, vcDG_TF, vcDG_FT, vcDG_und, vcDG_Tdec, vcDG_Fdec, vcDEff, saysAll, pendAll, pendNext, addPend, Says, vc_bad, vc_seq, vc_ret, vc_skip, vc_block, vc_exit, vcGrps_nil, vcGrps_cons, vcGrps_guard2, vcG2_bool, vcG2_und, vcGB_TT, vcGB_FF, vcGB_TF, vcGB_FT, vcGB_Tdec, vcGB_Fdec, vcOps_nil, vcOps_cons, vcOut, KCall_ret, KCall_pan, skipF_nil, skipF_cons, Qseq_normal, Qseq_ret, Qseq_exit, Qseq_pan, Qblk_normal, Qblk_exit, Qblk_ret, Qblk_pan, Qpan_eq, Qcut_normal, Qcut_exit, Qcut_ret, Qcut_pan, Qloop_normal, Qloop_exit, Qloop_ret, Qloop_pan,
    stepOp, ev, upd_apply, putF, cellsOf, deref, faddrV, mk, abin, abinI, abinS, ibits, aeqb, aun, fldV, idxOf, elems, isPtr, putRef, splice, fillA, rowsA, minV, peqV, elemsA, rowBytes, strOf, Store.get_push, Store.get_set, Store.n_push, Store.n_set,
    Option.map_some, Option.map_none, reduceIte, Nat.reduceEqDiff, Nat.reduceAdd, Nat.reduceLeDiff, Nat.reduceLT, Nat.zero_add, Nat.add_zero, Nat.add_assoc, Nat.add_left_cancel_iff, Nat.left_eq_add, Nat.add_eq_left, Nat.lt_irrefl, Nat.le_refl,
    List.drop_zero, List.drop_succ_cons, List.take_succ_cons, List.take_zero, List.headD_cons, List.length_cons, List.length_nil, List.getElem?_cons_zero, List.getElem?_cons_succ, List.set_cons_zero, List.set_cons_succ, List.map_cons, List.map_nil,
    Bool.not_true, Bool.not_false, Bool.false_eq_true, Bool.true_eq_false, Bool.not_eq_true', Bool.not_eq_false', eq_self, false_imp_iff, true_imp_iff, and_true, true_and, and_false, false_and, or_true, true_or, initFr, fr0_at, Qend, resL, resV1, pack,
    decide_eq_true_eq, decide_eq_false_iff_not, Int.toNat_natCast, Option.some.injEq, exists_eq_left', vc_cond2, vcC2_bool, vcCB_T, vcCB_F, vcCB_dec, decide_true, decide_false]
      exact he
    · have he' : ¬ (((headS b).2.2 : Nat) : Int) = 0 := by omega
      simp -implicitDefEqProofs only [f0, f1, f4, f7, f8, he', ne_eq, not_true, not_false_eq_true, Z5, splice, Qend, Qcut_ret, vc_region, vc_quiet, vcD_nil, vcD_val2, vcDO_val, vcDO_asks, vcD_eff, vcD_guard2, vcDG_TT, vcDG_FF, vcDG_TF, vcDG_FT, vcDG_und, vcDG_Tdec, vcDG_Fdec, vcDEff, saysAll, pendAll, pendNext, addPend, Says, vc_bad, vc_seq, vc_ret, vc_skip, vc_block, vc_exit, vcGrps_nil, vcGrps_cons, vcGrps_guard2, vcG2_bool, vcG2_und, vcGB_TT, vcGB_FF, vcGB_TF, vcGB_FT, vcGB_Tdec, vcGB_Fdec, vcOps_nil, vcOps_cons, vcOut, KCall_ret, KCall_pan, skipF_nil, skipF_cons, Qseq_normal, Qseq_ret, Qseq_exit, Qseq_pan, Qblk_normal, Qblk_exit, Qblk_ret, Qblk_pan, Qpan_eq, Qcut_normal, Qcut_exit, Qcut_ret, Qcut_pan, Qloop_normal, Qloop_exit, Qloop_ret, Qloop_pan,
    stepOp, ev, upd_apply, putF, cellsOf, deref, faddrV, mk, abin, abinI, abinS, ibits, aeqb, aun, fldV, idxOf, elems, isPtr, putRef, splice, fillA, rowsA, minV, peqV, elemsA, rowBytes, strOf, Store.get_push, Store.get_set, Store.n_push, Store.n_set,
    Option.map_some, Option.map_none, reduceIte, Nat.reduceEqDiff, Nat.reduceAdd, Nat.reduceLeDiff, Nat.reduceLT, Nat.zero_add, Nat.add_zero, Nat.add_assoc, Nat.add_left_cancel_iff, Nat.left_eq_add, Nat.add_eq_left, Nat.lt_irrefl, Nat.le_refl,
    List.drop_zero, List.drop_succ_cons, List.take_succ_cons, List.take_zero, List.headD_cons, List.length_cons, List.length_nil, List.getElem?_cons_zero, List.getElem?_cons_succ, List.set_cons_zero, List.set_cons_succ, List.map_cons, List.map_nil,
    Bool.not_true, Bool.not_false, Bool.false_eq_true, Bool.true_eq_false, Bool.not_eq_true', Bool.not_eq_false', eq_self, false_imp_iff, true_imp_iff, and_true, true_and, and_false, false_and, or_true, true_or, initFr, fr0_at, Qend, resL, resV1, pack,
    decide_eq_true_eq, decide_eq_false_iff_not, Int.toNat_natCast, Option.some.injEq, exists_eq_left', vc_cond2, vcC2_bool, vcCB_T, vcCB_F, vcCB_dec, decide_true, decide_false]
      exact ⟨hE1.set _ _ (by omega), .inl ⟨_, rfl, by simp only [readF, if_pos he]; exact wk_z _⟩⟩
  clear f0 f1 f4 f7 f8 fr
  rintro fr T ⟨f0, f1, f4, rfl, f7, he⟩
  have he2 : ¬ (headS b).2.2 ≠ 0 := by omega
  refine vc_cut (fun fr T => fr 0 = .str b ∧ fr 1 = .int .i64 w ∧ fr 4 = .ptr S.n 0 ∧ S.push (.box 24 Z5) = T ∧ fr 7 = .int .i64 ((headS b).1 + (headS b).2.1 : Nat) ∧ w < 20) ?_ ?_
  · by_cases hw2 : w ≥ 20
    · have hw' : (w : Int) ≥ 20 := by omega
      simp -implicitDefEqProofs only [f0, f1, f4, f7, hw', ne_eq, not_true, not_false_eq_true, Z5, splice, Qend, Qcut_ret, vc_region, vc_quiet, vcD_nil, vcD_val2, vcDO_val, vcDO_asks, vcD_eff, vcD_guard2, vcDG_TT, vcDG_FF, vcDG_TF, vcDG_FT, vcDG_und, vcDG_Tdec, vcDG_Fdec, vcDEff, saysAll, pendAll, pendNext, addPend, Says, vc_bad, vc_seq, vc_ret, vc_skip, vc_block, vc_exit, vcGrps_nil, vcGrps_cons, vcGrps_guard2, vcG2_bool, vcG2_und, vcGB_TT, vcGB_FF, vcGB_TF, vcGB_FT, vcGB_Tdec, vcGB_Fdec, vcOps_nil, vcOps_cons, vcOut, KCall_ret, KCall_pan, skipF_nil, skipF_cons, Qseq_normal, Qseq_ret, Qseq_exit, Qseq_pan, Qblk_normal, Qblk_exit, Qblk_ret, Qblk_pan, Qpan_eq, Qcut_normal, Qcut_exit, Qcut_ret, Qcut_pan, Qloop_normal, Qloop_exit, Qloop_ret, Qloop_pan,
    stepOp, ev, upd_apply, putF, cellsOf, deref, faddrV, mk, abin, abinI, abinS, ibits, aeqb, aun, fldV, idxOf, elems, isPtr, putRef, splice, fillA, rowsA, minV, peqV, elemsA, rowBytes, strOf, Store.get_push, Store.get_set, Store.n_push, Store.n_set,
    Option.map_some, Option.map_none, reduceIte, Nat.reduceEqDiff, Nat.reduceAdd, Nat.reduceLeDiff, Nat.reduceLT, Nat.zero_add, Nat.add_zero, Nat.add_assoc, Nat.add_left_cancel_iff, Nat.left_eq_add, Nat.add_eq_left, Nat.lt_irrefl, Nat.le_refl,
    List.drop_zero, List.drop_succ_cons, List.take_succ_cons, List.take_zero, List.headD_cons, List.length_cons, List.length_nil, List.getElem?_cons_zero, List.getElem?_cons_succ, List.set_cons_zero, List.set_cons_succ, List.map_cons, List.map_nil,
    Bool.not_true, Bool.not_false, Bool.false_eq_true, Bool.true_eq_false, Bool.not_eq_true', Bool.not_eq_false', eq_self, false_imp_iff, true_imp_iff, and_true, true_and, and_false, false_and, or_true, true_or, initFr, fr0_at, Qend, resL, resV1, pack,
    decide_eq_true_eq, decide_eq_false_iff_not, Int.toNat_natCast, Option.some.injEq, exists_eq_left', vc_cond2, vcC2_bool, vcCB_T, vcCB_F, vcCB_dec, decide_true, decide_false]
      exact ⟨hE1.set _ _ (by omega), .inl ⟨_, rfl, by simp only [readF, if_neg he2, if_pos hw2]; exact wk_z _⟩⟩
    · have hw' : ¬ (w : Int) ≥ 20 := by omega
      simp -implicitDefEqProofs only [f0, f1, f4, f7, hw', vc_region, vc_quiet, vcD_nil, vcD_val2, vcDO_val, vcDO_asks, vcD_eff, vcD_guard2, vcDG_TT, vcDG_FF, vcDG_TF, vcDG_FT, vcDG_und, vcDG_Tdec, vcDG_Fdec, vcDEff, saysAll, pendAll, pendNext, addPend, Says, vc_bad, vc_seq, vc_ret, vc_skip, vc_block, vc_exit, vcGrps_nil, vcGrps_cons, vcGrps_guard2, vcG2_bool, vcG2_und, vcGB_TT, vcGB_FF, vcGB_TF, vcGB_FT, vcGB_Tdec, vcGB_Fdec, vcOps_nil, vcOps_cons, vcOut, KCall_ret, KCall_pan, skipF_nil, skipF_cons, Qseq_normal, Qseq_ret, Qseq_exit, Qseq_pan, Qblk_normal, Qblk_exit, Qblk_ret, Qblk_pan, Qpan_eq, Qcut_normal, Qcut_exit, Qcut_ret, Qcut_pan, Qloop_normal, Qloop_exit, Qloop_ret, Qloop_pan,
    stepOp, ev, upd_apply, putF, cellsOf, deref, faddrV, mk, abin, abinI, abinS, ibits, aeqb, aun, fldV, idxOf, elems, isPtr, putRef, splice, fillA, rowsA, minV, peqV, elemsA, rowBytes, strOf, Store.get_push, Store.get_set, Store.n_push, Store.n_set,
    Option.map_some, Option.map_none, reduceIte, Nat.reduceEqDiff, Nat.reduceAdd, Nat.reduceLeDiff, Nat.reduceLT, Nat.zero_add, Nat.add_zero, Nat.add_assoc, Nat.add_left_cancel_iff, Nat.left_eq_add, Nat.add_eq_left, Nat.lt_irrefl, Nat.le_refl,
    List.drop_zero, List.drop_succ_cons, List.take_succ_cons, List.take_zero, List.headD_cons, List.length_cons, List.length_nil, List.getElem?_cons_zero, List.getElem?_cons_succ, List.set_cons_zero, List.set_cons_succ, List.map_cons, List.map_nil,
    Bool.not_true, Bool.not_false, Bool.false_eq_true, Bool.true_eq_false, Bool.not_eq_true', Bool.not_eq_false', eq_self, false_imp_iff, true_imp_iff, and_true, true_and, and_false, false_and, or_true, true_or, initFr, fr0_at, Qend, resL, resV1, pack,
    decide_eq_true_eq, decide_eq_false_iff_not, Int.toNat_natCast, Option.some.injEq, exists_eq_left', vc_cond2, vcC2_bool, vcCB_T, vcCB_F, vcCB_dec, decide_true, decide_false]
      omega
  clear f0 f1 f4 f7 fr
  rintro fr T ⟨f0, f1, f4, rfl, f7, hw20⟩
  have hw2 : ¬ w ≥ 20 := by omega
  refine vc_cut (fun fr T => fr 0 = .str b ∧ fr 1 = .int .i64 w ∧ fr 4 = .ptr S.n 0 ∧ S.push (.box 24 Z5) = T ∧ fr 7 = .int .i64 ((headS b).1 + (headS b).2.1 : Nat) ∧ (headS b).1 + (headS b).2.1 ≤ b.length) ?_ ?_
  · by_cases hl : b.length < (headS b).1 + (headS b).2.1
    · have hl' : (((headS b).1 + (headS b).2.1 : Nat) : Int) > b.length := by omega
      simp -implicitDefEqProofs only [f0, f1, f4, f7, hl', ne_eq, not_true, not_false_eq_true, Z5, splice, Qend, Qcut_ret, vc_region, vc_quiet, vcD_nil, vcD_val2, vcDO_val, vcDO_asks, vcD_eff, vcD_guard2, vcDG_TT, vcDG_FF, vcDG_TF, vcDG_FT, vcDG_und, vcDG_Tdec, vcDG_Fdec, vcDEff, saysAll, pendAll, pendNext, addPend, Says, vc_bad, vc_seq, vc_ret, vc_skip, vc_block, vc_exit, vcGrps_nil, vcGrps_cons, vcGrps_guard2, vcG2_bool, vcG2_und, vcGB_TT, vcGB_FF, vcGB_TF, vcGB_FT, vcGB_Tdec, vcGB_Fdec, vcOps_nil, vcOps_cons, vcOut, KCall_ret, KCall_pan, skipF_nil, skipF_cons, Qseq_normal, Qseq_ret, Qseq_exit, Qseq_pan, Qblk_normal, Qblk_exit, Qblk_ret, Qblk_pan, Qpan_eq, Qcut_normal, Qcut_exit, Qcut_ret, Qcut_pan, Qloop_normal, Qloop_exit, Qloop_ret, Qloop_pan,
    stepOp, ev, upd_apply, putF, cellsOf, deref, faddrV, mk, abin, abinI, abinS, ibits, aeqb, aun, fldV, idxOf, elems, isPtr, putRef, splice, fillA, rowsA, minV, peqV, elemsA, rowBytes, strOf, Store.get_push, Store.get_set, Store.n_push, Store.n_set,
    Option.map_some, Option.map_none, reduceIte, Nat.reduceEqDiff, Nat.reduceAdd, Nat.reduceLeDiff, Nat.reduceLT, Nat.zero_add, Nat.add_zero, Nat.add_assoc, Nat.add_left_cancel_iff, Nat.left_eq_add, Nat.add_eq_left, Nat.lt_irrefl, Nat.le_refl,
    List.drop_zero, List.drop_succ_cons, List.take_succ_cons, List.take_zero, List.headD_cons, List.length_cons, List.length_nil, List.getElem?_cons_zero, List.getElem?_cons_succ, List.set_cons_zero, List.set_cons_succ, List.map_cons, List.map_nil,
    Bool.not_true, Bool.not_false, Bool.false_eq_true, Bool.true_eq_false, Bool.not_eq_true', Bool.not_eq_false', eq_self, false_imp_iff, true_imp_iff, and_true, true_and, and_false, false_and, or_true, true_or, initFr, fr0_at, Qend, resL, resV1, pack,
    decide_eq_true_eq, decide_eq_false_iff_not, Int.toNat_natCast, Option.some.injEq, exists_eq_left', vc_cond2, vcC2_bool, vcCB_T, vcCB_F, vcCB_dec, decide_true, decide_false]
      intro _
      exact ⟨hE1.set _ _ (by omega), .inl ⟨_, rfl, by simp only [readF, if_neg he2, if_neg hw2, if_pos hl]; exact wk_z _⟩⟩
    · have hl' : ¬ (((headS b).1 + (headS b).2.1 : Nat) : Int) > b.length := by omega
      simp -implicitDefEqProofs only [f0, f1, f4, f7, hl', vc_region, vc_quiet, vcD_nil, vcD_val2, vcDO_val, vcDO_asks, vcD_eff, vcD_guard2, vcDG_TT, vcDG_FF, vcDG_TF, vcDG_FT, vcDG_und, vcDG_Tdec, vcDG_Fdec, vcDEff, saysAll, pendAll, pendNext, addPend, Says, vc_bad, vc_seq, vc_ret, vc_skip, vc_block, vc_exit, vcGrps_nil, vcGrps_cons, vcGrps_guard2, vcG2_bool, vcG2_und, vcGB_TT, vcGB_FF, vcGB_TF, vcGB_FT, vcGB_Tdec, vcGB_Fdec, vcOps_nil, vcOps_cons, vcOut, KCall_ret, KCall_pan, skipF_nil, skipF_cons, Qseq_normal, Qseq_ret, Qseq_exit, Qseq_pan, Qblk_normal, Qblk_exit, Qblk_ret, Qblk_pan, Qpan_eq, Qcut_normal, Qcut_exit, Qcut_ret, Qcut_pan, Qloop_normal, Qloop_exit, Qloop_ret, Qloop_pan,
    stepOp, ev, upd_apply, putF, cellsOf, deref, faddrV, mk, abin, abinI, abinS, ibits, aeqb, aun, fldV, idxOf, elems, isPtr, putRef, splice, fillA, rowsA, minV, peqV, elemsA, rowBytes, strOf, Store.get_push, Store.get_set, Store.n_push, Store.n_set,
    Option.map_some, Option.map_none, reduceIte, Nat.reduceEqDiff, Nat.reduceAdd, Nat.reduceLeDiff, Nat.reduceLT, Nat.zero_add, Nat.add_zero, Nat.add_assoc, Nat.add_left_cancel_iff, Nat.left_eq_add, Nat.add_eq_left, Nat.lt_irrefl, Nat.le_refl,
    List.drop_zero, List.drop_succ_cons, List.take_succ_cons, List.take_zero, List.headD_cons, List.length_cons, List.length_nil, List.getElem?_cons_zero, List.getElem?_cons_succ, List.set_cons_zero, List.set_cons_succ, List.map_cons, List.map_nil,
    Bool.not_true, Bool.not_false, Bool.false_eq_true, Bool.true_eq_false, Bool.not_eq_true', Bool.not_eq_false', eq_self, false_imp_iff, true_imp_iff, and_true, true_and, and_false, false_and, or_true, true_or, initFr, fr0_at, Qend, resL, resV1, pack,
    decide_eq_true_eq, decide_eq_false_iff_not, Int.toNat_natCast, Option.some.injEq, exists_eq_left', vc_cond2, vcC2_bool, vcCB_T, vcCB_F, vcCB_dec, decide_true, decide_false]
      intro _
      omega
  clear f0 f1 f4 f7 fr
  rintro fr T ⟨f0, f1, f4, rfl, f7, hl⟩
  have hl2 : ¬ b.length < (headS b).1 + (headS b).2.1 := by omega
  obtain ⟨hn2, hc⟩ := headS_two b he
  obtain ⟨cl1, cl2, cl3⟩ := contB_len b he hl
  have hrh := (headS_eq b he).1
  refine vc_cut (fun fr T => fr 0 = .str b ∧ fr 1 = .int .i64 w ∧ fr 4 = .ptr S.n 0 ∧ S.push (.box 24 Z5) = T ∧ fr 7 = .int .i64 ((headS b).1 + (headS b).2.1 : Nat) ∧ fr 9 = .int .i64 ((headS b).1 : Nat)) ?_ ?_
  · simp -implicitDefEqProofs only [f0, f1, f4, f7, vc_region, vc_quiet, vcD_nil, vcD_val2, vcDO_val, vcDO_asks, vcD_eff, vcD_guard2, vcDG_TT, vcDG_FF, vcDG_TF, vcDG_FT, vcDG_und, vcDG_Tdec, vcDG_Fdec, vcDEff, saysAll, pendAll, pendNext, addPend, Says, vc_bad, vc_seq, vc_ret, vc_skip, vc_block, vc_exit, vcGrps_nil, vcGrps_cons, vcGrps_guard2, vcG2_bool, vcG2_und, vcGB_TT, vcGB_FF, vcGB_TF, vcGB_FT, vcGB_Tdec, vcGB_Fdec, vcOps_nil, vcOps_cons, vcOut, KCall_ret, KCall_pan, skipF_nil, skipF_cons, Qseq_normal, Qseq_ret, Qseq_exit, Qseq_pan, Qblk_normal, Qblk_exit, Qblk_ret, Qblk_pan, Qpan_eq, Qcut_normal, Qcut_exit, Qcut_ret, Qcut_pan, Qloop_normal, Qloop_exit, Qloop_ret, Qloop_pan,
    stepOp, ev, upd_apply, putF, cellsOf, deref, faddrV, mk, abin, abinI, abinS, ibits, aeqb, aun, fldV, idxOf, elems, isPtr, putRef, splice, fillA, rowsA, minV, peqV, elemsA, rowBytes, strOf, Store.get_push, Store.get_set, Store.n_push, Store.n_set,
    Option.map_some, Option.map_none, reduceIte, Nat.reduceEqDiff, Nat.reduceAdd, Nat.reduceLeDiff, Nat.reduceLT, Nat.zero_add, Nat.add_zero, Nat.add_assoc, Nat.add_left_cancel_iff, Nat.left_eq_add, Nat.add_eq_left, Nat.lt_irrefl, Nat.le_refl,
    List.drop_zero, List.drop_succ_cons, List.take_succ_cons, List.take_zero, List.headD_cons, List.length_cons, List.length_nil, List.getElem?_cons_zero, List.getElem?_cons_succ, List.set_cons_zero, List.set_cons_succ, List.map_cons, List.map_nil,
    Bool.not_true, Bool.not_false, Bool.false_eq_true, Bool.true_eq_false, Bool.not_eq_true', Bool.not_eq_false', eq_self, false_imp_iff, true_imp_iff, and_true, true_and, and_false, false_and, or_true, true_or, initFr, fr0_at, Qend, resL, resV1, pack,
    decide_eq_true_eq, decide_eq_false_iff_not, Int.toNat_natCast, Option.some.injEq, exists_eq_left', vc_cond2, vcC2_bool, vcCB_T, vcCB_F, vcCB_dec, decide_true, decide_false]
    refine (c60 b).use ?_
    rw [← hrh]
    simp -implicitDefEqProofs only [f0, f1, f4, f7, encH, vc_region, vc_quiet, vcD_nil, vcD_val2, vcDO_val, vcDO_asks, vcD_eff, vcD_guard2, vcDG_TT, vcDG_FF, vcDG_TF, vcDG_FT, vcDG_und, vcDG_Tdec, vcDG_Fdec, vcDEff, saysAll, pendAll, pendNext, addPend, Says, vc_bad, vc_seq, vc_ret, vc_skip, vc_block, vc_exit, vcGrps_nil, vcGrps_cons, vcGrps_guard2, vcG2_bool, vcG2_und, vcGB_TT, vcGB_FF, vcGB_TF, vcGB_FT, vcGB_Tdec, vcGB_Fdec, vcOps_nil, vcOps_cons, vcOut, KCall_ret, KCall_pan, skipF_nil, skipF_cons, Qseq_normal, Qseq_ret, Qseq_exit, Qseq_pan, Qblk_normal, Qblk_exit, Qblk_ret, Qblk_pan, Qpan_eq, Qcut_normal, Qcut_exit, Qcut_ret, Qcut_pan, Qloop_normal, Qloop_exit, Qloop_ret, Qloop_pan,
    stepOp, ev, upd_apply, putF, cellsOf, deref, faddrV, mk, abin, abinI, abinS, ibits, aeqb, aun, fldV, idxOf, elems, isPtr, putRef, splice, fillA, rowsA, minV, peqV, elemsA, rowBytes, strOf, Store.get_push, Store.get_set, Store.n_push, Store.n_set,
    Option.map_some, Option.map_none, reduceIte, Nat.reduceEqDiff, Nat.reduceAdd, Nat.reduceLeDiff, Nat.reduceLT, Nat.zero_add, Nat.add_zero, Nat.add_assoc, Nat.add_left_cancel_iff, Nat.left_eq_add, Nat.add_eq_left, Nat.lt_irrefl, Nat.le_refl,
    List.drop_zero, List.drop_succ_cons, List.take_succ_cons, List.take_zero, List.headD_cons, List.length_cons, List.length_nil, List.getElem?_cons_zero, List.getElem?_cons_succ, List.set_cons_zero, List.set_cons_succ, List.map_cons, List.map_nil,
    Bool.not_true, Bool.not_false, Bool.false_eq_true, Bool.true_eq_false, Bool.not_eq_true', Bool.not_eq_false', eq_self, false_imp_iff, true_imp_iff, and_true, true_and, and_false, false_and, or_true, true_or, initFr, fr0_at, Qend, resL, resV1, pack,
    decide_eq_true_eq, decide_eq_false_iff_not, Int.toNat_natCast, Option.some.injEq, exists_eq_left', vc_cond2, vcC2_bool, vcCB_T, vcCB_F, vcCB_dec, decide_true, decide_false]
  clear f0 f1 f4 f7 fr
  rintro fr T ⟨f0, f1, f4, rfl, f7, f9⟩
  refine vc_cut (fun fr T => fr 0 = .str b ∧ fr 1 = .int .i64 w ∧ fr 4 = .ptr S.n 0 ∧ fr 7 = .int .i64 ((headS b).1 + (headS b).2.1 : Nat) ∧ fr 9 = .int .i64 ((headS b).1 : Nat) ∧ fr 12 = .ptr (S.n + 1) 0 ∧ Ext S T ∧ T.n = S.n + 2 ∧
    T.get S.n = some (.box 24 Z5) ∧ T.get (S.n + 1) = some (.box 24 [.int .i64 (clsB b), .int .i64 (tagB b), .bool (consB b), .str [], .lit (.slice none 0 0)])) ?_ ?_
  · obtain ⟨c, d, r, hb⟩ := hc
    have hb0 : b[Int.toNat 0]? = some c := by rw [hb]; rfl
    have h00 : (0 : Int) ≤ 0 := by decide
    have g64 : ¬ (64 : Int) = 0 := by decide
    have g32 : ¬ (32 : Int) = 0 := by decide
    have g2 : ¬ (2 : Int) = 0 := by decide
    have hcl : clsB b = c.toNat / 64 := by rw [hb]; rfl
    have htg : tagB b = c.toNat % 32 := by rw [hb]; rfl
    have hco : consB b = decide (c.toNat / 32 % 2 = 1) := by rw [hb]; rfl
    have hcb := c.toNat_lt
    have a1 := tq64 c.toNat
    have a2 := tm32 c.toNat
    have a3 := tq32 c.toNat
    have a4 := tm2 (c.toNat / 32)
    have b1 := w8n (c.toNat / 64) (by omega)
    have b3 := w8n (c.toNat / 32) (by omega)
    have w1 : IntKind.i64.wrap ((c.toNat / 64 : Nat) : Int) = ((c.toNat / 64 : Nat) : Int) := w64 _ (by omega) (by omega)
    have w2 : IntKind.i64.wrap ((c.toNat % 32 : Nat) : Int) = ((c.toNat % 32 : Nat) : Int) := w64 _ (by omega) (by omega)
    have hone : (((c.toNat / 32 % 2 : Nat) : Int) = 1) = (c.toNat / 32 % 2 = 1) := propext (by omega)
    rw [hcl, htg, hco]
    simp -implicitDefEqProofs only [f0, f1, f4, f7, f9, hb0, h00, g64, g32, g2, a1, a2, a3, a4, b1, b3, w1, w2, hone, Says, pendAll, pendNext, addPend, saysAll, splice, vcDEff, vc_region, vc_quiet, vcD_nil, vcD_val2, vcDO_val, vcDO_asks, vcD_eff, vcD_guard2, vcDG_TT, vcDG_FF, vcDG_TF, vcDG_FT, vcDG_und, vcDG_Tdec, vcDG_Fdec, vcDEff, saysAll, pendAll, pendNext, addPend, Says, vc_bad, vc_seq, vc_ret, vc_skip, vc_block, vc_exit, vcGrps_nil, vcGrps_cons, vcGrps_guard2, vcG2_bool, vcG2_und, vcGB_TT, vcGB_FF, vcGB_TF, vcGB_FT, vcGB_Tdec, vcGB_Fdec, vcOps_nil, vcOps_cons, vcOut, KCall_ret, KCall_pan, skipF_nil, skipF_cons, Qseq_normal, Qseq_ret, Qseq_exit, Qseq_pan, Qblk_normal, Qblk_exit, Qblk_ret, Qblk_pan, Qpan_eq, Qcut_normal, Qcut_exit, Qcut_ret, Qcut_pan, Qloop_normal, Qloop_exit, Qloop_ret, Qloop_pan,
    stepOp, ev, upd_apply, putF, cellsOf, deref, faddrV, mk, abin, abinI, abinS, ibits, aeqb, aun, fldV, idxOf, elems, isPtr, putRef, splice, fillA, rowsA, minV, peqV, elemsA, rowBytes, strOf, Store.get_push, Store.get_set, Store.n_push, Store.n_set,
    Option.map_some, Option.map_none, reduceIte, Nat.reduceEqDiff, Nat.reduceAdd, Nat.reduceLeDiff, Nat.reduceLT, Nat.zero_add, Nat.add_zero, Nat.add_assoc, Nat.add_left_cancel_iff, Nat.left_eq_add, Nat.add_eq_left, Nat.lt_irrefl, Nat.le_refl,
    List.drop_zero, List.drop_succ_cons, List.take_succ_cons, List.take_zero, List.headD_cons, List.length_cons, List.length_nil, List.getElem?_cons_zero, List.getElem?_cons_succ, List.set_cons_zero, List.set_cons_succ, List.map_cons, List.map_nil,
    Bool.not_true, Bool.not_false, Bool.false_eq_true, Bool.true_eq_false, Bool.not_eq_true', Bool.not_eq_false', eq_self, false_imp_iff, true_imp_iff, and_true, true_and, and_false, false_and, or_true, true_or, initFr, fr0_at, Qend, resL, resV1, pack,
    decide_eq_true_eq, decide_eq_false_iff_not, Int.toNat_natCast, Option.some.injEq, exists_eq_left', vc_cond2, vcC2_bool, vcCB_T, vcCB_F, vcCB_dec, decide_true, decide_false]
    exact (hE1.push _).set _ _ (by omega)
  clear f0 f1 f4 f7 f9 fr hE1 hg
  rintro fr T ⟨f0, f1, f4, f7, f9, f12, hE, hTn, hg4, hg9⟩
  have p0 : (0 : Int) ≤ ((headS b).1 : Nat) := by omega
  have p1 : (0 : Int) ≤ (((headS b).1 + (headS b).2.1 : Nat) : Int) := by omega
  have p2 : (headS b).1 ≤ (headS b).1 + (headS b).2.1 := by omega
  have hsl : List.drop (headS b).1 (List.take ((headS b).1 + (headS b).2.1) b) = contB b := rfl
  have h01 : ¬ S.n = S.n + 1 := by omega
  -- an element that holds none
  refine vc_cut (fun fr U => fr 0 = .str b ∧ fr 1 = .int .i64 w ∧ fr 4 = .ptr S.n 0 ∧ fr 7 = .int .i64 ((headS b).1 + (headS b).2.1 : Nat) ∧ fr 9 = .int .i64 ((headS b).1 : Nat) ∧ fr 12 = .ptr (S.n + 1) 0 ∧ T = U ∧ consB b = true) ?_ ?_
  · cases hco : consB b
    rotate_left
    · rw [hco] at hg9
      simp -implicitDefEqProofs only [f0, f1, f4, f7, f9, f12, hg4, hg9, vc_region, vc_quiet, vcD_nil, vcD_val2, vcDO_val, vcDO_asks, vcD_eff, vcD_guard2, vcDG_TT, vcDG_FF, vcDG_TF, vcDG_FT, vcDG_und, vcDG_Tdec, vcDG_Fdec, vcDEff, saysAll, pendAll, pendNext, addPend, Says, vc_bad, vc_seq, vc_ret, vc_skip, vc_block, vc_exit, vcGrps_nil, vcGrps_cons, vcGrps_guard2, vcG2_bool, vcG2_und, vcGB_TT, vcGB_FF, vcGB_TF, vcGB_FT, vcGB_Tdec, vcGB_Fdec, vcOps_nil, vcOps_cons, vcOut, KCall_ret, KCall_pan, skipF_nil, skipF_cons, Qseq_normal, Qseq_ret, Qseq_exit, Qseq_pan, Qblk_normal, Qblk_exit, Qblk_ret, Qblk_pan, Qpan_eq, Qcut_normal, Qcut_exit, Qcut_ret, Qcut_pan, Qloop_normal, Qloop_exit, Qloop_ret, Qloop_pan,
    stepOp, ev, upd_apply, putF, cellsOf, deref, faddrV, mk, abin, abinI, abinS, ibits, aeqb, aun, fldV, idxOf, elems, isPtr, putRef, splice, fillA, rowsA, minV, peqV, elemsA, rowBytes, strOf, Store.get_push, Store.get_set, Store.n_push, Store.n_set,
    Option.map_some, Option.map_none, reduceIte, Nat.reduceEqDiff, Nat.reduceAdd, Nat.reduceLeDiff, Nat.reduceLT, Nat.zero_add, Nat.add_zero, Nat.add_assoc, Nat.add_left_cancel_iff, Nat.left_eq_add, Nat.add_eq_left, Nat.lt_irrefl, Nat.le_refl,
    List.drop_zero, List.drop_succ_cons, List.take_succ_cons, List.take_zero, List.headD_cons, List.length_cons, List.length_nil, List.getElem?_cons_zero, List.getElem?_cons_succ, List.set_cons_zero, List.set_cons_succ, List.map_cons, List.map_nil,
    Bool.not_true, Bool.not_false, Bool.false_eq_true, Bool.true_eq_false, Bool.not_eq_true', Bool.not_eq_false', eq_self, false_imp_iff, true_imp_iff, and_true, true_and, and_false, false_and, or_true, true_or, initFr, fr0_at, Qend, resL, resV1, pack,
    decide_eq_true_eq, decide_eq_false_iff_not, Int.toNat_natCast, Option.some.injEq, exists_eq_left', vc_cond2, vcC2_bool, vcCB_T, vcCB_F, vcCB_dec, decide_true, decide_false]
    · rw [hco] at hg9
      simp -implicitDefEqProofs only [f0, f1, f4, f7, f9, f12, hg4, hg9, p0, p1, p2, hl, hsl, h01, splice, Z5, Qcut_ret, Qend, vc_region, vc_quiet, vcD_nil, vcD_val2, vcDO_val, vcDO_asks, vcD_eff, vcD_guard2, vcDG_TT, vcDG_FF, vcDG_TF, vcDG_FT, vcDG_und, vcDG_Tdec, vcDG_Fdec, vcDEff, saysAll, pendAll, pendNext, addPend, Says, vc_bad, vc_seq, vc_ret, vc_skip, vc_block, vc_exit, vcGrps_nil, vcGrps_cons, vcGrps_guard2, vcG2_bool, vcG2_und, vcGB_TT, vcGB_FF, vcGB_TF, vcGB_FT, vcGB_Tdec, vcGB_Fdec, vcOps_nil, vcOps_cons, vcOut, KCall_ret, KCall_pan, skipF_nil, skipF_cons, Qseq_normal, Qseq_ret, Qseq_exit, Qseq_pan, Qblk_normal, Qblk_exit, Qblk_ret, Qblk_pan, Qpan_eq, Qcut_normal, Qcut_exit, Qcut_ret, Qcut_pan, Qloop_normal, Qloop_exit, Qloop_ret, Qloop_pan,
    stepOp, ev, upd_apply, putF, cellsOf, deref, faddrV, mk, abin, abinI, abinS, ibits, aeqb, aun, fldV, idxOf, elems, isPtr, putRef, splice, fillA, rowsA, minV, peqV, elemsA, rowBytes, strOf, Store.get_push, Store.get_set, Store.n_push, Store.n_set,
    Option.map_some, Option.map_none, reduceIte, Nat.reduceEqDiff, Nat.reduceAdd, Nat.reduceLeDiff, Nat.reduceLT, Nat.zero_add, Nat.add_zero, Nat.add_assoc, Nat.add_left_cancel_iff, Nat.left_eq_add, Nat.add_eq_left, Nat.lt_irrefl, Nat.le_refl,
    List.drop_zero, List.drop_succ_cons, List.take_succ_cons, List.take_zero, List.headD_cons, List.length_cons, List.length_nil, List.getElem?_cons_zero, List.getElem?_cons_succ, List.set_cons_zero, List.set_cons_succ, List.map_cons, List.map_nil,
    Bool.not_true, Bool.not_false, Bool.false_eq_true, Bool.true_eq_false, Bool.not_eq_true', Bool.not_eq_false', eq_self, false_imp_iff, true_imp_iff, and_true, true_and, and_false, false_and, or_true, true_or, initFr, fr0_at, Qend, resL, resV1, pack,
    decide_eq_true_eq, decide_eq_false_iff_not, Int.toNat_natCast, Option.some.injEq, exists_eq_left', vc_cond2, vcC2_bool, vcCB_T, vcCB_F, vcCB_dec, decide_true, decide_false]
      refine ⟨(hE.set _ _ (by omega)).set _ _ (by omega), .inl ⟨_, rfl, ?_⟩⟩
      simp only [readF, if_neg he2, if_neg hw2, if_neg hl2, hco, if_true, tkV, encE]
      exact Wk.tup (.cons (Wk.agg (.cons (Wk.refl _) (.cons (Wk.refl _) (.cons (Wk.refl _) (.cons (Wk.refl _) (.cons (Wk.nil 5) .nil)))))) (WkL.refl _))
  clear f0 f1 f4 f7 f9 f12 fr
  rintro fr U ⟨f0, f1, f4, f7, f9, f12, rfl, hco⟩
  have hR : readF (f + 1) b w = endK b (kidsF (fun c => readF f c (w + 1)) (contB b).length (contB b)) := by
    simp only [readF, if_neg he2, if_neg hw2, if_neg hl2, hco]; rfl
  rw [hR]
  rw [hco] at hg9
  generalize hkk : kidsF (fun c => readF f c (w + 1)) (contB b).length (contB b) = kk
  have hwp : IntKind.i64.wrap ((w : Int) + 1) = ((w + 1 : Nat) : Int) := by rw [w64 _ (by omega) (by omega)]; omega
  rw [vc_seq, vc_block]
  refine vc_loop (fun g fr U => ∃ (j : Nat) (done : List Elem), fr 0 = .str b ∧ fr 1 = .int .i64 w ∧ fr 4 = .ptr S.n 0 ∧ fr 7 = .int .i64 ((headS b).1 + (headS b).2.1 : Nat) ∧ fr 12 = .ptr (S.n + 1) 0 ∧ fr 9 = .int .i64 ((headS b).1 + j : Nat) ∧
    j ≤ (headS b).2.1 ∧ (headS b).2.1 - j ≤ g ∧ done.length ≤ j ∧ kk = addK done (kidsF (fun c => readF f c (w + 1)) g ((contB b).drop j)) ∧ Ext S U ∧ S.n + 2 ≤ U.n ∧ U.get S.n = some (.box 24 Z5) ∧
    ((done = [] ∧ U.get (S.n + 1) = some (.box 24 [.int .i64 (clsB b), .int .i64 (tagB b), .bool true, .str [], .lit (.slice none 0 0)])) ∨
      ∃ k, S.n + 2 ≤ k ∧ k < U.n ∧ U.get (S.n + 1) = some (.box 24 [.int .i64 (clsB b), .int .i64 (tagB b), .bool true, .str [], .own k 0 done.length]) ∧ U.get k = some (.row 24 5 0 (encEs done)))) (headS b).2.1
    ⟨0, [], f0, f1, f4, f7, f12, f9, by omega, by omega, by simp, by rw [← cl1, List.drop_zero, hkk]; cases kk <;> rfl, hE, by omega, hg4, .inl ⟨rfl, hg9⟩⟩ ?_
  clear f0 f1 f4 f7 f9 f12 fr hE hg4 hg9 hTn T
  rintro g fr U ⟨j, done, f0, f1, f4, f7, f12, f9, hjm, hcg, hdl, hkd, hE, hUn, hg4, hrow⟩
  by_cases hc0 : j = (headS b).2.1
  · -- all is read
    subst hc0
    have hkk2 : kk = .ok done := by
      rw [hkd, List.drop_eq_nil_of_le (by omega)]
      have : kidsF (fun c => readF f c (w + 1)) g [] = .ok [] := by cases g <;> simp [kidsF]
      rw [this]; simp [addK]
    rw [hkk2]
    have hlt : ¬ (((headS b).1 + (headS b).2.1 : Nat) : Int) < (((headS b).1 + (headS b).2.1 : Nat) : Int) := by omega
    rcases hrow with ⟨rfl, hg9⟩ | ⟨k, hk, hkU, hg9, hrow⟩
    · simp -implicitDefEqProofs only [f0, f1, f4, f7, f9, f12, hg4, hg9, hlt, h01, splice, Z5, Qend, vc_region, vc_quiet, vcD_nil, vcD_val2, vcDO_val, vcDO_asks, vcD_eff, vcD_guard2, vcDG_TT, vcDG_FF, vcDG_TF, vcDG_FT, vcDG_und, vcDG_Tdec, vcDG_Fdec, vcDEff, saysAll, pendAll, pendNext, addPend, Says, vc_bad, vc_seq, vc_ret, vc_skip, vc_block, vc_exit, vcGrps_nil, vcGrps_cons, vcGrps_guard2, vcG2_bool, vcG2_und, vcGB_TT, vcGB_FF, vcGB_TF, vcGB_FT, vcGB_Tdec, vcGB_Fdec, vcOps_nil, vcOps_cons, vcOut, KCall_ret, KCall_pan, skipF_nil, skipF_cons, Qseq_normal, Qseq_ret, Qseq_exit, Qseq_pan, Qblk_normal, Qblk_exit, Qblk_ret, Qblk_pan, Qpan_eq, Qcut_normal, Qcut_exit, Qcut_ret, Qcut_pan, Qloop_normal, Qloop_exit, Qloop_ret, Qloop_pan,
    stepOp, ev, upd_apply, putF, cellsOf, deref, faddrV, mk, abin, abinI, abinS, ibits, aeqb, aun, fldV, idxOf, elems, isPtr, putRef, splice, fillA, rowsA, minV, peqV, elemsA, rowBytes, strOf, Store.get_push, Store.get_set, Store.n_push, Store.n_set,
    Option.map_some, Option.map_none, reduceIte, Nat.reduceEqDiff, Nat.reduceAdd, Nat.reduceLeDiff, Nat.reduceLT, Nat.zero_add, Nat.add_zero, Nat.add_assoc, Nat.add_left_cancel_iff, Nat.left_eq_add, Nat.add_eq_left, Nat.lt_irrefl, Nat.le_refl,
    List.drop_zero, List.drop_succ_cons, List.take_succ_cons, List.take_zero, List.headD_cons, List.length_cons, List.length_nil, List.getElem?_cons_zero, List.getElem?_cons_succ, List.set_cons_zero, List.set_cons_succ, List.map_cons, List.map_nil,
    Bool.not_true, Bool.not_false, Bool.false_eq_true, Bool.true_eq_false, Bool.not_eq_true', Bool.not_eq_false', eq_self, false_imp_iff, true_imp_iff, and_true, true_and, and_false, false_and, or_true, true_or, initFr, fr0_at, Qend, resL, resV1, pack,
    decide_eq_true_eq, decide_eq_false_iff_not, Int.toNat_natCast, Option.some.injEq, exists_eq_left', vc_cond2, vcC2_bool, vcCB_T, vcCB_F, vcCB_dec, decide_true, decide_false]
      refine ⟨hE.set _ _ (by omega), .inl ⟨_, rfl, ?_⟩⟩
      simp only [endK, tkV, encE]
      exact Wk.tup (.cons (Wk.agg (.cons (Wk.refl _) (.cons (Wk.refl _) (.cons (Wk.refl _) (.cons (Wk.refl _) (.cons (Wk.nil 5) .nil)))))) (WkL.refl _))
    · have hk1 : ¬ k = S.n := by omega
      simp -implicitDefEqProofs only [f0, f1, f4, f7, f9, f12, hg4, hg9, hlt, h01, splice, Z5, Qend, vc_region, vc_quiet, vcD_nil, vcD_val2, vcDO_val, vcDO_asks, vcD_eff, vcD_guard2, vcDG_TT, vcDG_FF, vcDG_TF, vcDG_FT, vcDG_und, vcDG_Tdec, vcDG_Fdec, vcDEff, saysAll, pendAll, pendNext, addPend, Says, vc_bad, vc_seq, vc_ret, vc_skip, vc_block, vc_exit, vcGrps_nil, vcGrps_cons, vcGrps_guard2, vcG2_bool, vcG2_und, vcGB_TT, vcGB_FF, vcGB_TF, vcGB_FT, vcGB_Tdec, vcGB_Fdec, vcOps_nil, vcOps_cons, vcOut, KCall_ret, KCall_pan, skipF_nil, skipF_cons, Qseq_normal, Qseq_ret, Qseq_exit, Qseq_pan, Qblk_normal, Qblk_exit, Qblk_ret, Qblk_pan, Qpan_eq, Qcut_normal, Qcut_exit, Qcut_ret, Qcut_pan, Qloop_normal, Qloop_exit, Qloop_ret, Qloop_pan,
    stepOp, ev, upd_apply, putF, cellsOf, deref, faddrV, mk, abin, abinI, abinS, ibits, aeqb, aun, fldV, idxOf, elems, isPtr, putRef, splice, fillA, rowsA, minV, peqV, elemsA, rowBytes, strOf, Store.get_push, Store.get_set, Store.n_push, Store.n_set,
    Option.map_some, Option.map_none, reduceIte, Nat.reduceEqDiff, Nat.reduceAdd, Nat.reduceLeDiff, Nat.reduceLT, Nat.zero_add, Nat.add_zero, Nat.add_assoc, Nat.add_left_cancel_iff, Nat.left_eq_add, Nat.add_eq_left, Nat.lt_irrefl, Nat.le_refl,
    List.drop_zero, List.drop_succ_cons, List.take_succ_cons, List.take_zero, List.headD_cons, List.length_cons, List.length_nil, List.getElem?_cons_zero, List.getElem?_cons_succ, List.set_cons_zero, List.set_cons_succ, List.map_cons, List.map_nil,
    Bool.not_true, Bool.not_false, Bool.false_eq_true, Bool.true_eq_false, Bool.not_eq_true', Bool.not_eq_false', eq_self, false_imp_iff, true_imp_iff, and_true, true_and, and_false, false_and, or_true, true_or, initFr, fr0_at, Qend, resL, resV1, pack,
    decide_eq_true_eq, decide_eq_false_iff_not, Int.toNat_natCast, Option.some.injEq, exists_eq_left', vc_cond2, vcC2_bool, vcCB_T, vcCB_F, vcCB_dec, decide_true, decide_false]
      refine ⟨hE.set _ _ (by omega), .inr ⟨k, 24, 5, 0, _, _, by omega, rfl, by rw [Store.get_set_ne _ _ hk1]; exact hrow, ?_, ?_⟩⟩
      · simp only [fzOk, fzOkL, and_true, true_and, encEs_length]; intro _; omega
      · simp [endK, tkV, encE, fz, fzL]
  · -- one more
    obtain ⟨g, rfl⟩ : ∃ g', g = g' + 1 := ⟨g - 1, by omega⟩
    have hlt : (((headS b).1 + j : Nat) : Int) < (((headS b).1 + (headS b).2.1 : Nat) : Int) := by omega
    have q0 : (0 : Int) ≤ (((headS b).1 + j : Nat) : Int) := by omega
    have q2 : (headS b).1 + j ≤ (headS b).1 + (headS b).2.1 := by omega
    have hsj : List.drop ((headS b).1 + j) (List.take ((headS b).1 + (headS b).2.1) b) = (contB b).drop j := by rw [contB, List.drop_drop]
    have hcj : ((contB b).drop j).length = (headS b).2.1 - j := by rw [List.length_drop]; omega
    have hjne : (contB b).drop j ≠ [] := fun h => by rw [h] at hcj; simp at hcj; omega
    have q2' : j ≤ (headS b).2.1 := hjm
    simp -implicitDefEqProofs only [f0, f1, f4, f7, f9, f12, hlt, q0, p1, q2, q2', hl, hsj, hwp, Nat.add_le_add_iff_left, vc_region, vc_quiet, vcD_nil, vcD_val2, vcDO_val, vcDO_asks, vcD_eff, vcD_guard2, vcDG_TT, vcDG_FF, vcDG_TF, vcDG_FT, vcDG_und, vcDG_Tdec, vcDG_Fdec, vcDEff, saysAll, pendAll, pendNext, addPend, Says, vc_bad, vc_seq, vc_ret, vc_skip, vc_block, vc_exit, vcGrps_nil, vcGrps_cons, vcGrps_guard2, vcG2_bool, vcG2_und, vcGB_TT, vcGB_FF, vcGB_TF, vcGB_FT, vcGB_Tdec, vcGB_Fdec, vcOps_nil, vcOps_cons, vcOut, KCall_ret, KCall_pan, skipF_nil, skipF_cons, Qseq_normal, Qseq_ret, Qseq_exit, Qseq_pan, Qblk_normal, Qblk_exit, Qblk_ret, Qblk_pan, Qpan_eq, Qcut_normal, Qcut_exit, Qcut_ret, Qcut_pan, Qloop_normal, Qloop_exit, Qloop_ret, Qloop_pan,
    stepOp, ev, upd_apply, putF, cellsOf, deref, faddrV, mk, abin, abinI, abinS, ibits, aeqb, aun, fldV, idxOf, elems, isPtr, putRef, splice, fillA, rowsA, minV, peqV, elemsA, rowBytes, strOf, Store.get_push, Store.get_set, Store.n_push, Store.n_set,
    Option.map_some, Option.map_none, reduceIte, Nat.reduceEqDiff, Nat.reduceAdd, Nat.reduceLeDiff, Nat.reduceLT, Nat.zero_add, Nat.add_zero, Nat.add_assoc, Nat.add_left_cancel_iff, Nat.left_eq_add, Nat.add_eq_left, Nat.lt_irrefl, Nat.le_refl,
    List.drop_zero, List.drop_succ_cons, List.take_succ_cons, List.take_zero, List.headD_cons, List.length_cons, List.length_nil, List.getElem?_cons_zero, List.getElem?_cons_succ, List.set_cons_zero, List.set_cons_succ, List.map_cons, List.map_nil,
    Bool.not_true, Bool.not_false, Bool.false_eq_true, Bool.true_eq_false, Bool.not_eq_true', Bool.not_eq_false', eq_self, false_imp_iff, true_imp_iff, and_true, true_and, and_false, false_and, or_true, true_or, initFr, fr0_at, Qend, resL, resV1, pack,
    decide_eq_true_eq, decide_eq_false_iff_not, Int.toNat_natCast, Option.some.injEq, exists_eq_left', vc_cond2, vcC2_bool, vcCB_T, vcCB_F, vcCB_dec, decide_true, decide_false]
    refine (ih ((contB b).drop j) (w + 1) (by omega) (by omega)).use ?_
    generalize hcc : (contB b).drop j = c at hkd hcj hjne ⊢
    simp only [kidsF, if_neg hjne] at hkd
    have hU1 : ¬ S.n + 1 = U.n := by omega
    have hU0 : ¬ S.n = U.n := by omega
    have hU2 : ¬ S.n = U.n + 1 := by omega
    cases hrd : readF f c (w + 1) with
    | err n =>
      rw [hrd] at hkd
      simp only [addK] at hkd
      rw [hkd]
      have hn0 : ¬ (n : Int) = 0 := by have := (readF_err _ _ _ _ hrd).1; omega
      simp -implicitDefEqProofs only [tkV, f0, f1, f4, f7, f9, f12, hg4, hn0, hU0, encE_length, splice_encE, splice, Z5, ne_eq, not_false_eq_true, Qend, vc_region, vc_quiet, vcD_nil, vcD_val2, vcDO_val, vcDO_asks, vcD_eff, vcD_guard2, vcDG_TT, vcDG_FF, vcDG_TF, vcDG_FT, vcDG_und, vcDG_Tdec, vcDG_Fdec, vcDEff, saysAll, pendAll, pendNext, addPend, Says, vc_bad, vc_seq, vc_ret, vc_skip, vc_block, vc_exit, vcGrps_nil, vcGrps_cons, vcGrps_guard2, vcG2_bool, vcG2_und, vcGB_TT, vcGB_FF, vcGB_TF, vcGB_FT, vcGB_Tdec, vcGB_Fdec, vcOps_nil, vcOps_cons, vcOut, KCall_ret, KCall_pan, skipF_nil, skipF_cons, Qseq_normal, Qseq_ret, Qseq_exit, Qseq_pan, Qblk_normal, Qblk_exit, Qblk_ret, Qblk_pan, Qpan_eq, Qcut_normal, Qcut_exit, Qcut_ret, Qcut_pan, Qloop_normal, Qloop_exit, Qloop_ret, Qloop_pan,
    stepOp, ev, upd_apply, putF, cellsOf, deref, faddrV, mk, abin, abinI, abinS, ibits, aeqb, aun, fldV, idxOf, elems, isPtr, putRef, splice, fillA, rowsA, minV, peqV, elemsA, rowBytes, strOf, Store.get_push, Store.get_set, Store.n_push, Store.n_set,
    Option.map_some, Option.map_none, reduceIte, Nat.reduceEqDiff, Nat.reduceAdd, Nat.reduceLeDiff, Nat.reduceLT, Nat.zero_add, Nat.add_zero, Nat.add_assoc, Nat.add_left_cancel_iff, Nat.left_eq_add, Nat.add_eq_left, Nat.lt_irrefl, Nat.le_refl,
    List.drop_zero, List.drop_succ_cons, List.take_succ_cons, List.take_zero, List.headD_cons, List.length_cons, List.length_nil, List.getElem?_cons_zero, List.getElem?_cons_succ, List.set_cons_zero, List.set_cons_succ, List.map_cons, List.map_nil,
    Bool.not_true, Bool.not_false, Bool.false_eq_true, Bool.true_eq_false, Bool.not_eq_true', Bool.not_eq_false', eq_self, false_imp_iff, true_imp_iff, and_true, true_and, and_false, false_and, or_true, true_or, initFr, fr0_at, Qend, resL, resV1, pack,
    decide_eq_true_eq, decide_eq_false_iff_not, Int.toNat_natCast, Option.some.injEq, exists_eq_left', vc_cond2, vcC2_bool, vcCB_T, vcCB_F, vcCB_dec, decide_true, decide_false]
      exact ⟨((hE.push _).set _ _ hE.n).set _ _ (by omega), .inl ⟨_, rfl, wk_z _⟩⟩
    | ok x rest =>
      rw [hrd] at hkd
      obtain ⟨hce, _, hal, hrs, hrl⟩ := readF_ok hrd
      have hadd : addK done (match kidsF (fun c => readF f c (w + 1)) g rest with | .err n => .err n | .ok ks => .ok (x :: ks)) = addK (done ++ [x]) (kidsF (fun c => readF f c (w + 1)) g rest) := by
        cases kidsF (fun c => readF f c (w + 1)) g rest <;> simp [addK]
      have hkd' := hkd.trans hadd
      have hc2 := (headS_two c hce).1
      generalize hdd : (headS c).1 + (headS c).2.1 = dd at hal
      have hrest : rest = (contB b).drop (j + dd) := by rw [hrs, restB, hdd, ← hcc, List.drop_drop]
      rw [hrest] at hkd'
      have hwd : IntKind.i64.wrap ((((headS b).1 + j : Nat) : Int) + (dd : Nat)) = (((headS b).1 + (j + dd) : Nat) : Int) := by rw [w64 _ (by omega) (by omega)]; omega
      rcases hrow with ⟨rfl, hg9⟩ | ⟨k, hk, hkU, hg9, hrow⟩
      · simp -implicitDefEqProofs only [tkV, f0, f1, f4, f7, f9, f12, hg9, hU0, hU1, hU2, hdd, hwd, encE_length, encE_take5, splice_encE, splice, ne_eq, not_true, vc_region, vc_quiet, vcD_nil, vcD_val2, vcDO_val, vcDO_asks, vcD_eff, vcD_guard2, vcDG_TT, vcDG_FF, vcDG_TF, vcDG_FT, vcDG_und, vcDG_Tdec, vcDG_Fdec, vcDEff, saysAll, pendAll, pendNext, addPend, Says, vc_bad, vc_seq, vc_ret, vc_skip, vc_block, vc_exit, vcGrps_nil, vcGrps_cons, vcGrps_guard2, vcG2_bool, vcG2_und, vcGB_TT, vcGB_FF, vcGB_TF, vcGB_FT, vcGB_Tdec, vcGB_Fdec, vcOps_nil, vcOps_cons, vcOut, KCall_ret, KCall_pan, skipF_nil, skipF_cons, Qseq_normal, Qseq_ret, Qseq_exit, Qseq_pan, Qblk_normal, Qblk_exit, Qblk_ret, Qblk_pan, Qpan_eq, Qcut_normal, Qcut_exit, Qcut_ret, Qcut_pan, Qloop_normal, Qloop_exit, Qloop_ret, Qloop_pan,
    stepOp, ev, upd_apply, putF, cellsOf, deref, faddrV, mk, abin, abinI, abinS, ibits, aeqb, aun, fldV, idxOf, elems, isPtr, putRef, splice, fillA, rowsA, minV, peqV, elemsA, rowBytes, strOf, Store.get_push, Store.get_set, Store.n_push, Store.n_set,
    Option.map_some, Option.map_none, reduceIte, Nat.reduceEqDiff, Nat.reduceAdd, Nat.reduceLeDiff, Nat.reduceLT, Nat.zero_add, Nat.add_zero, Nat.add_assoc, Nat.add_left_cancel_iff, Nat.left_eq_add, Nat.add_eq_left, Nat.lt_irrefl, Nat.le_refl,
    List.drop_zero, List.drop_succ_cons, List.take_succ_cons, List.take_zero, List.headD_cons, List.length_cons, List.length_nil, List.getElem?_cons_zero, List.getElem?_cons_succ, List.set_cons_zero, List.set_cons_succ, List.map_cons, List.map_nil,
    Bool.not_true, Bool.not_false, Bool.false_eq_true, Bool.true_eq_false, Bool.not_eq_true', Bool.not_eq_false', eq_self, false_imp_iff, true_imp_iff, and_true, true_and, and_false, false_and, or_true, true_or, initFr, fr0_at, Qend, resL, resV1, pack,
    decide_eq_true_eq, decide_eq_false_iff_not, Int.toNat_natCast, Option.some.injEq, exists_eq_left', vc_cond2, vcC2_bool, vcCB_T, vcCB_F, vcCB_dec, decide_true, decide_false]
        refine ⟨by omega, g, by omega, j + dd, [x], rfl, by omega, by omega, by simp; omega, hkd', (((hE.push _).set _ _ hE.n).push _).set _ _ (by omega), by omega, hg4, .inr ⟨U.n + 1, by omega, by omega, rfl, ?_⟩⟩
        rw [if_neg (by omega), if_pos rfl]; rfl
      · have hk1 : ¬ k = U.n := by omega
        have hk2 : ¬ k = U.n + 1 := by omega
        have hk3 : ¬ S.n + 1 = k := by omega
        have hk4 : ¬ S.n = k := by omega
        simp -implicitDefEqProofs only [tkV, f0, f1, f4, f7, f9, f12, hg9, hrow, hU0, hU1, hU2, hk1, hk2, hk3, hk4, hdd, hwd, encEs_length, encE_length, encE_take5, splice_encE, splice, ne_eq, not_true, vc_region, vc_quiet, vcD_nil, vcD_val2, vcDO_val, vcDO_asks, vcD_eff, vcD_guard2, vcDG_TT, vcDG_FF, vcDG_TF, vcDG_FT, vcDG_und, vcDG_Tdec, vcDG_Fdec, vcDEff, saysAll, pendAll, pendNext, addPend, Says, vc_bad, vc_seq, vc_ret, vc_skip, vc_block, vc_exit, vcGrps_nil, vcGrps_cons, vcGrps_guard2, vcG2_bool, vcG2_und, vcGB_TT, vcGB_FF, vcGB_TF, vcGB_FT, vcGB_Tdec, vcGB_Fdec, vcOps_nil, vcOps_cons, vcOut, KCall_ret, KCall_pan, skipF_nil, skipF_cons, Qseq_normal, Qseq_ret, Qseq_exit, Qseq_pan, Qblk_normal, Qblk_exit, Qblk_ret, Qblk_pan, Qpan_eq, Qcut_normal, Qcut_exit, Qcut_ret, Qcut_pan, Qloop_normal, Qloop_exit, Qloop_ret, Qloop_pan,
    stepOp, ev, upd_apply, putF, cellsOf, deref, faddrV, mk, abin, abinI, abinS, ibits, aeqb, aun, fldV, idxOf, elems, isPtr, putRef, splice, fillA, rowsA, minV, peqV, elemsA, rowBytes, strOf, Store.get_push, Store.get_set, Store.n_push, Store.n_set,
    Option.map_some, Option.map_none, reduceIte, Nat.reduceEqDiff, Nat.reduceAdd, Nat.reduceLeDiff, Nat.reduceLT, Nat.zero_add, Nat.add_zero, Nat.add_assoc, Nat.add_left_cancel_iff, Nat.left_eq_add, Nat.add_eq_left, Nat.lt_irrefl, Nat.le_refl,
    List.drop_zero, List.drop_succ_cons, List.take_succ_cons, List.take_zero, List.headD_cons, List.length_cons, List.length_nil, List.getElem?_cons_zero, List.getElem?_cons_succ, List.set_cons_zero, List.set_cons_succ, List.map_cons, List.map_nil,
    Bool.not_true, Bool.not_false, Bool.false_eq_true, Bool.true_eq_false, Bool.not_eq_true', Bool.not_eq_false', eq_self, false_imp_iff, true_imp_iff, and_true, true_and, and_false, false_and, or_true, true_or, initFr, fr0_at, Qend, resL, resV1, pack,
    decide_eq_true_eq, decide_eq_false_iff_not, Int.toNat_natCast, Option.some.injEq, exists_eq_left', vc_cond2, vcC2_bool, vcCB_T, vcCB_F, vcCB_dec, decide_true, decide_false]
        have hlx : (done ++ [x]).length = done.length + 1 := by simp
        refine ⟨by omega, g, by omega, j + dd, done ++ [x], rfl, by omega, by omega, by rw [hlx]; omega, hkd', ((((hE.push _).set _ _ hE.n).set _ _ (by omega)).push _).set _ _ (by omega), by omega, hg4, .inr ⟨U.n + 1, by omega, by omega, by rw [hlx], ?_⟩⟩
        rw [if_neg (by omega), if_pos rfl, encEs_app]; rfl
end Go.Proofs.Ytmlllckecalaaaa.Eng

namespace Go.Proofs.Ytmlllckecalaaaa.Eng
open Go Go.Proofs.Try

@[irreducible] def PA40 : LCode :=
  LCode.region [⟨none, [(some 2, LOp.alloc 24 [AV.int IntKind.i64 0, AV.int IntKind.i64 0, AV.bool false, AV.str [], AV.lit (Value.slice none 0 0)]), (some 3, LOp.alloc 28 [AV.int IntKind.i64 0])]⟩]

@[irreducible] def PB40 : LCode :=
  (LCode.region [⟨none, [(some 8, LOp.mv (LX.tmp 0)), (some 9, LOp.call 62 [LX.tmp 8, LX.con (AV.int IntKind.i64 0)]), (some 7, LOp.mv (LX.tmp 9)), (some 10, LOp.extr 0 (LX.tmp 7)), (some 11, LOp.extr 1 (LX.tmp 7)), (some 4,
    LOp.alloc 24 [AV.int IntKind.i64 0, AV.int IntKind.i64 0, AV.bool false, AV.str [], AV.lit (Value.slice none 0 0)]), (none, LOp.store 5 (LX.tmp 4) (LX.tmp 10)), (some 5, LOp.mv (LX.tmp 11))]⟩]).seq (((LCode.region [⟨none, [(some
    12, LOp.mv (LX.tmp 5)), (some 13, LOp.bin BinOp.neq (LX.tmp 12) (LX.con (AV.str [])))]⟩]).seq (LCode.cond (LX.tmp 13) ((LCode.region [⟨none, [(some 14, LOp.build [AV.int IntKind.i64 0, AV.int IntKind.i64 0, AV.bool false, AV.str
    [], AV.lit (Value.slice none 0 0)] []), (none, LOp.store 5 (LX.tmp 2) (LX.tmp 14)), (none, LOp.store 1 (LX.tmp 3) (LX.con (AV.int IntKind.i64 25)))]⟩]).seq LCode.ret) LCode.skip)).seq ((LCode.region [⟨none, [(some 15, LOp.load
    true 5 (LX.tmp 4)), (none, LOp.store 5 (LX.tmp 2) (LX.tmp 15)), (none, LOp.store 1 (LX.tmp 3) (LX.con (AV.int IntKind.i64 0)))]⟩]).seq LCode.ret))

@[irreducible] def PD61 : LCode :=
  (LCode.region [⟨none, [(some 6, LOp.mv (LX.tmp 2)), (some 7, LOp.inil true (LX.tmp 6))]⟩]).seq (LCode.cond (LX.tmp 7) ((LCode.region [⟨none, [(some 9, LOp.mv (LX.tmp 2)), (some 10, LOp.tass 28 (LX.tmp 9)), (some 8, LOp.mv (LX.tmp
    10)), (some 11, LOp.extr 0 (LX.tmp 8)), (some 12, LOp.extr 1 (LX.tmp 8)), (some 3, LOp.mv (LX.tmp 11)), (some 4, LOp.mv (LX.tmp 12))]⟩]).seq (((LCode.region [⟨none, [(some 13, LOp.mv (LX.tmp 4)), (some 14, LOp.un UnOp.not
    (LX.tmp 13))]⟩]).seq (LCode.cond (LX.tmp 14) (LCode.region [⟨none, [(some 15, LOp.mv (LX.tmp 2)), (none, LOp.panic (LX.tmp 15))]⟩]) LCode.skip)).seq (LCode.region [⟨none, [(some 16, LOp.build [AV.int IntKind.i64 0, AV.int
    IntKind.i64 0, AV.bool false, AV.str [], AV.lit (Value.slice none 0 0)] []), (some 17, LOp.mv (LX.tmp 3)), (none, LOp.store 5 (LX.tmp 0) (LX.tmp 16)), (none, LOp.store 1 (LX.tmp 1) (LX.tmp 17))]⟩]))) LCode.skip)

end Go.Proofs.Ytmlllckecalaaaa.Eng

namespace Go.Proofs.Ytmlllckecalaaaa.Eng
open Go Go.Proofs.Try

theorem d61n (S : Store) (p q : Nat) : ADef prog 61 [.ptr p 0, .ptr q 0] S none fun S' => S' = S := by
  refine adef_of_vc (lc := PD61) func61 rfl rfl rfl rfl rfl rfl rfl (by decide) (by decide) (by unfold PD61; kernel_rfl) rfl (by show 2 ≤ f61.ntmps; decide) ?_
  simp -implicitDefEqProofs only [PD61, mV, QDef, vc_region, vc_quiet, vcD_nil, vcD_val2, vcDO_val, vcDO_asks, vcD_eff, vcD_guard2, vcDG_TT, vcDG_FF, vcDG_TF, vcDG_FT, vcDG_und, vcDG_Tdec, vcDG_Fdec, vcDEff, saysAll, pendAll, pendNext, addPend, Says, vc_bad, vc_seq, vc_ret, vc_skip, vc_block, vc_exit, vcGrps_nil, vcGrps_cons, vcGrps_guard2, vcG2_bool, vcG2_und, vcGB_TT, vcGB_FF, vcGB_TF, vcGB_FT, vcGB_Tdec, vcGB_Fdec, vcOps_nil, vcOps_cons, vcOut, KCall_ret, KCall_pan, skipF_nil, skipF_cons, Qseq_normal, Qseq_ret, Qseq_exit, Qseq_pan, Qblk_normal, Qblk_exit, Qblk_ret, Qblk_pan, Qpan_eq, Qcut_normal, Qcut_exit, Qcut_ret, Qcut_pan, Qloop_normal, Qloop_exit, Qloop_ret, Qloop_pan,
    stepOp, ev, upd_apply, putF, cellsOf, deref, faddrV, mk, abin, abinI, abinS, ibits, aeqb, aun, fldV, idxOf, elems, isPtr, putRef, splice, fillA, rowsA, minV, peqV, elemsA, rowBytes, strOf, Store.get_push, Store.get_set, Store.n_push, Store.n_set,
    Option.map_some, Option.map_none, reduceIte, Nat.reduceEqDiff, Nat.reduceAdd, Nat.reduceLeDiff, Nat.reduceLT, Nat.zero_add, Nat.add_zero, Nat.add_assoc, Nat.add_left_cancel_iff, Nat.left_eq_add, Nat.add_eq_left, Nat.lt_irrefl, Nat.le_refl,
    List.drop_zero, List.drop_succ_cons, List.take_succ_cons, List.take_zero, List.headD_cons, List.length_cons, List.length_nil, List.getElem?_cons_zero, List.getElem?_cons_succ, List.set_cons_zero, List.set_cons_succ, List.map_cons, List.map_nil,
    Bool.not_true, Bool.not_false, Bool.false_eq_true, Bool.true_eq_false, Bool.not_eq_true', Bool.not_eq_false', eq_self, false_imp_iff, true_imp_iff, and_true, true_and, and_false, false_and, or_true, true_or, initFr, fr0_at, Qend, resL, resV1, pack,
    decide_eq_true_eq, decide_eq_false_iff_not, Int.toNat_natCast, Option.some.injEq, exists_eq_left', vc_cond2, vcC2_bool, vcCB_T, vcCB_F, vcCB_dec, decide_true, decide_false]
theorem d61s (S : Store) (p q : Nat) (a b c d f x : AV) (n : Int) (hp : S.get p = some (.box 24 [a, b, c, d, f])) (hq : S.get q = some (.box 28 [x])) (hpq : q ≠ p) :
    ADef prog 61 [.ptr p 0, .ptr q 0] S (some (.ifc 28 (.int .i64 n))) fun S' => S' = (S.set p (some (.box 24 Z5))).set q (some (.box 28 [.int .i64 n])) := by
  refine adef_of_vc (lc := PD61) func61 rfl rfl rfl rfl rfl rfl rfl (by decide) (by decide) (by unfold PD61; kernel_rfl) rfl (by show 2 ≤ f61.ntmps; decide) ?_
  simp -implicitDefEqProofs only [PD61, mV, QDef, hp, hq, hpq, splice, Z5, vc_region, vc_quiet, vcD_nil, vcD_val2, vcDO_val, vcDO_asks, vcD_eff, vcD_guard2, vcDG_TT, vcDG_FF, vcDG_TF, vcDG_FT, vcDG_und, vcDG_Tdec, vcDG_Fdec, vcDEff, saysAll, pendAll, pendNext, addPend, Says, vc_bad, vc_seq, vc_ret, vc_skip, vc_block, vc_exit, vcGrps_nil, vcGrps_cons, vcGrps_guard2, vcG2_bool, vcG2_und, vcGB_TT, vcGB_FF, vcGB_TF, vcGB_FT, vcGB_Tdec, vcGB_Fdec, vcOps_nil, vcOps_cons, vcOut, KCall_ret, KCall_pan, skipF_nil, skipF_cons, Qseq_normal, Qseq_ret, Qseq_exit, Qseq_pan, Qblk_normal, Qblk_exit, Qblk_ret, Qblk_pan, Qpan_eq, Qcut_normal, Qcut_exit, Qcut_ret, Qcut_pan, Qloop_normal, Qloop_exit, Qloop_ret, Qloop_pan,
    stepOp, ev, upd_apply, putF, cellsOf, deref, faddrV, mk, abin, abinI, abinS, ibits, aeqb, aun, fldV, idxOf, elems, isPtr, putRef, splice, fillA, rowsA, minV, peqV, elemsA, rowBytes, strOf, Store.get_push, Store.get_set, Store.n_push, Store.n_set,
    Option.map_some, Option.map_none, reduceIte, Nat.reduceEqDiff, Nat.reduceAdd, Nat.reduceLeDiff, Nat.reduceLT, Nat.zero_add, Nat.add_zero, Nat.add_assoc, Nat.add_left_cancel_iff, Nat.left_eq_add, Nat.add_eq_left, Nat.lt_irrefl, Nat.le_refl,
    List.drop_zero, List.drop_succ_cons, List.take_succ_cons, List.take_zero, List.headD_cons, List.length_cons, List.length_nil, List.getElem?_cons_zero, List.getElem?_cons_succ, List.set_cons_zero, List.set_cons_succ, List.map_cons, List.map_nil,
    Bool.not_true, Bool.not_false, Bool.false_eq_true, Bool.true_eq_false, Bool.not_eq_true', Bool.not_eq_false', eq_self, false_imp_iff, true_imp_iff, and_true, true_and, and_false, false_and, or_true, true_or, initFr, fr0_at, Qend, resL, resV1, pack,
    decide_eq_true_eq, decide_eq_false_iff_not, Int.toNat_natCast, Option.some.injEq, exists_eq_left', vc_cond2, vcC2_bool, vcCB_T, vcCB_F, vcCB_dec, decide_true, decide_false]

/-! ## Reading whole -/
def readS (b : List UInt8) : Elem × Nat := match readF (b.length + 1) b 0 with
  | .err n => (zE, n)
  | .ok x r => if r = [] then (x, 0) else (zE, 25)
theorem zE_bare : bare zE := fun n => by simp only [zE, encE, nmL, nm, encEs, List.append_nil, nmLL, and_self]
theorem readS_bare (b : List UInt8) : bare (readS b).1 := by
  unfold readS
  cases h : readF (b.length + 1) b 0 with
  | err n => exact zE_bare
  | ok x r => simp only; split
              · exact readF_bare _ _ _ _ _ h
              · exact zE_bare
theorem restB_nil (b : List UInt8) : restB b = [] ↔ ¬ (headS b).1 + (headS b).2.1 < b.length := by
  unfold restB; rw [List.drop_eq_nil_iff]; omega

theorem c41 (b : List UInt8) : Pure prog 41 [.str b] (.tup [.agg (encE (readS b).1), .int .i64 ((readS b).2 : Nat)]) := by
  refine Pure.out (fun n => by simp only [nm, nmL, and_true]; exact readS_bare b n) fun S => acalls_of_vc low41 (by simp) ?_
  have hx := (Ext.refl S).push
  have h63 := c63 (b.length + 1) b 0 (by omega) (by omega)
  simp -implicitDefEqProofs only [B41, vc_region, vc_quiet, vcD_nil, vcD_val2, vcDO_val, vcDO_asks, vcD_eff, vcD_guard2, vcDG_TT, vcDG_FF, vcDG_TF, vcDG_FT, vcDG_und, vcDG_Tdec, vcDG_Fdec, vcDEff, saysAll, pendAll, pendNext, addPend, Says, vc_bad, vc_seq, vc_ret, vc_skip, vc_block, vc_exit, vcGrps_nil, vcGrps_cons, vcGrps_guard2, vcG2_bool, vcG2_und, vcGB_TT, vcGB_FF, vcGB_TF, vcGB_FT, vcGB_Tdec, vcGB_Fdec, vcOps_nil, vcOps_cons, vcOut, KCall_ret, KCall_pan, skipF_nil, skipF_cons, Qseq_normal, Qseq_ret, Qseq_exit, Qseq_pan, Qblk_normal, Qblk_exit, Qblk_ret, Qblk_pan, Qpan_eq, Qcut_normal, Qcut_exit, Qcut_ret, Qcut_pan, Qloop_normal, Qloop_exit, Qloop_ret, Qloop_pan,
    stepOp, ev, upd_apply, putF, cellsOf, deref, faddrV, mk, abin, abinI, abinS, ibits, aeqb, aun, fldV, idxOf, elems, isPtr, putRef, splice, fillA, rowsA, minV, peqV, elemsA, rowBytes, strOf, Store.get_push, Store.get_set, Store.n_push, Store.n_set,
    Option.map_some, Option.map_none, reduceIte, Nat.reduceEqDiff, Nat.reduceAdd, Nat.reduceLeDiff, Nat.reduceLT, Nat.zero_add, Nat.add_zero, Nat.add_assoc, Nat.add_left_cancel_iff, Nat.left_eq_add, Nat.add_eq_left, Nat.lt_irrefl, Nat.le_refl,
    List.drop_zero, List.drop_succ_cons, List.take_succ_cons, List.take_zero, List.headD_cons, List.length_cons, List.length_nil, List.getElem?_cons_zero, List.getElem?_cons_succ, List.set_cons_zero, List.set_cons_succ, List.map_cons, List.map_nil,
    Bool.not_true, Bool.not_false, Bool.false_eq_true, Bool.true_eq_false, Bool.not_eq_true', Bool.not_eq_false', eq_self, false_imp_iff, true_imp_iff, and_true, true_and, and_false, false_and, or_true, true_or, initFr, fr0_at, Qend, resL, resV1, pack,
    decide_eq_true_eq, decide_eq_false_iff_not, Int.toNat_natCast, Option.some.injEq, exists_eq_left', vc_cond2, vcC2_bool, vcCB_T, vcCB_F, vcCB_dec, decide_true, decide_false]
  have hc0 : ((0 : Nat) : Int) = 0 := rfl
  rw [hc0] at h63
  refine h63.use ?_
  have wz : ∀ n : Nat, Wk (.tup [.agg [.int .i64 0, .int .i64 0, .bool false, .str [], .lit (.slice none 0 0)], .int .i64 (n : Nat)]) (.tup [.agg (encE zE), .int .i64 (n : Nat)]) := fun n =>
    Wk.tup (.cons (Wk.agg (.cons (Wk.refl _) (.cons (Wk.refl _) (.cons (Wk.refl _) (.cons (Wk.refl _) (.cons (Wk.nil 5) .nil)))))) (WkL.refl _))
  unfold readS
  cases hr : readF (b.length + 1) b 0 with
  | err n =>
    have hn : ¬ (n : Int) = 0 := by have := (readF_err _ _ _ _ hr).1; omega
    simp -implicitDefEqProofs only [tkV, hn, encE_length, splice_encE, splice, ne_eq, not_false_eq_true, vc_region, vc_quiet, vcD_nil, vcD_val2, vcDO_val, vcDO_asks, vcD_eff, vcD_guard2, vcDG_TT, vcDG_FF, vcDG_TF, vcDG_FT, vcDG_und, vcDG_Tdec, vcDG_Fdec, vcDEff, saysAll, pendAll, pendNext, addPend, Says, vc_bad, vc_seq, vc_ret, vc_skip, vc_block, vc_exit, vcGrps_nil, vcGrps_cons, vcGrps_guard2, vcG2_bool, vcG2_und, vcGB_TT, vcGB_FF, vcGB_TF, vcGB_FT, vcGB_Tdec, vcGB_Fdec, vcOps_nil, vcOps_cons, vcOut, KCall_ret, KCall_pan, skipF_nil, skipF_cons, Qseq_normal, Qseq_ret, Qseq_exit, Qseq_pan, Qblk_normal, Qblk_exit, Qblk_ret, Qblk_pan, Qpan_eq, Qcut_normal, Qcut_exit, Qcut_ret, Qcut_pan, Qloop_normal, Qloop_exit, Qloop_ret, Qloop_pan,
    stepOp, ev, upd_apply, putF, cellsOf, deref, faddrV, mk, abin, abinI, abinS, ibits, aeqb, aun, fldV, idxOf, elems, isPtr, putRef, splice, fillA, rowsA, minV, peqV, elemsA, rowBytes, strOf, Store.get_push, Store.get_set, Store.n_push, Store.n_set,
    Option.map_some, Option.map_none, reduceIte, Nat.reduceEqDiff, Nat.reduceAdd, Nat.reduceLeDiff, Nat.reduceLT, Nat.zero_add, Nat.add_zero, Nat.add_assoc, Nat.add_left_cancel_iff, Nat.left_eq_add, Nat.add_eq_left, Nat.lt_irrefl, Nat.le_refl,
    List.drop_zero, List.drop_succ_cons, List.take_succ_cons, List.take_zero, List.headD_cons, List.length_cons, List.length_nil, List.getElem?_cons_zero, List.getElem?_cons_succ, List.set_cons_zero, List.set_cons_succ, List.map_cons, List.map_nil,
    Bool.not_true, Bool.not_false, Bool.false_eq_true, Bool.true_eq_false, Bool.not_eq_true', Bool.not_eq_false', eq_self, false_imp_iff, true_imp_iff, and_true, true_and, and_false, false_and, or_true, true_or, initFr, fr0_at, Qend, resL, resV1, pack,
    decide_eq_true_eq, decide_eq_false_iff_not, Int.toNat_natCast, Option.some.injEq, exists_eq_left', vc_cond2, vcC2_bool, vcCB_T, vcCB_F, vcCB_dec, decide_true, decide_false]
    exact ⟨(((hx _).push _).set _ _ (by omega)).set _ _ (by omega), .inl ⟨_, rfl, wz n⟩⟩
  | ok x r =>
    obtain ⟨_, _, _, hrs, _⟩ := readF_ok hr
    have hrn := restB_nil b
    rw [← hrs] at hrn
    by_cases hlt : (headS b).1 + (headS b).2.1 < b.length
    · have hlt' : (((headS b).1 + (headS b).2.1 : Nat) : Int) < b.length := by omega
      have hr0 : ¬ r = [] := fun h => hrn.1 h hlt
      simp -implicitDefEqProofs only [tkV, hlt', hr0, encE_length, encE_take5, splice_encE, splice, ne_eq, not_true, not_false_eq_true, vc_region, vc_quiet, vcD_nil, vcD_val2, vcDO_val, vcDO_asks, vcD_eff, vcD_guard2, vcDG_TT, vcDG_FF, vcDG_TF, vcDG_FT, vcDG_und, vcDG_Tdec, vcDG_Fdec, vcDEff, saysAll, pendAll, pendNext, addPend, Says, vc_bad, vc_seq, vc_ret, vc_skip, vc_block, vc_exit, vcGrps_nil, vcGrps_cons, vcGrps_guard2, vcG2_bool, vcG2_und, vcGB_TT, vcGB_FF, vcGB_TF, vcGB_FT, vcGB_Tdec, vcGB_Fdec, vcOps_nil, vcOps_cons, vcOut, KCall_ret, KCall_pan, skipF_nil, skipF_cons, Qseq_normal, Qseq_ret, Qseq_exit, Qseq_pan, Qblk_normal, Qblk_exit, Qblk_ret, Qblk_pan, Qpan_eq, Qcut_normal, Qcut_exit, Qcut_ret, Qcut_pan, Qloop_normal, Qloop_exit, Qloop_ret, Qloop_pan,
    stepOp, ev, upd_apply, putF, cellsOf, deref, faddrV, mk, abin, abinI, abinS, ibits, aeqb, aun, fldV, idxOf, elems, isPtr, putRef, splice, fillA, rowsA, minV, peqV, elemsA, rowBytes, strOf, Store.get_push, Store.get_set, Store.n_push, Store.n_set,
    Option.map_some, Option.map_none, reduceIte, Nat.reduceEqDiff, Nat.reduceAdd, Nat.reduceLeDiff, Nat.reduceLT, Nat.zero_add, Nat.add_zero, Nat.add_assoc, Nat.add_left_cancel_iff, Nat.left_eq_add, Nat.add_eq_left, Nat.lt_irrefl, Nat.le_refl,
    List.drop_zero, List.drop_succ_cons, List.take_succ_cons, List.take_zero, List.headD_cons, List.length_cons, List.length_nil, List.getElem?_cons_zero, List.getElem?_cons_succ, List.set_cons_zero, List.set_cons_succ, List.map_cons, List.map_nil,
    Bool.not_true, Bool.not_false, Bool.false_eq_true, Bool.true_eq_false, Bool.not_eq_true', Bool.not_eq_false', eq_self, false_imp_iff, true_imp_iff, and_true, true_and, and_false, false_and, or_true, true_or, initFr, fr0_at, Qend, resL, resV1, pack,
    decide_eq_true_eq, decide_eq_false_iff_not, Int.toNat_natCast, Option.some.injEq, exists_eq_left', vc_cond2, vcC2_bool, vcCB_T, vcCB_F, vcCB_dec, decide_true, decide_false]
      intro _
      exact ⟨(((hx _).push _).set _ _ (by omega)).set _ _ (by omega), .inl ⟨_, rfl, wz 25⟩⟩
    · have hlt' : ¬ (((headS b).1 + (headS b).2.1 : Nat) : Int) < b.length := by omega
      have hr0 : r = [] := hrn.2 hlt
      simp -implicitDefEqProofs only [tkV, hlt', hr0, encE_length, encE_take5, splice_encE, splice, ne_eq, not_true, not_false_eq_true, vc_region, vc_quiet, vcD_nil, vcD_val2, vcDO_val, vcDO_asks, vcD_eff, vcD_guard2, vcDG_TT, vcDG_FF, vcDG_TF, vcDG_FT, vcDG_und, vcDG_Tdec, vcDG_Fdec, vcDEff, saysAll, pendAll, pendNext, addPend, Says, vc_bad, vc_seq, vc_ret, vc_skip, vc_block, vc_exit, vcGrps_nil, vcGrps_cons, vcGrps_guard2, vcG2_bool, vcG2_und, vcGB_TT, vcGB_FF, vcGB_TF, vcGB_FT, vcGB_Tdec, vcGB_Fdec, vcOps_nil, vcOps_cons, vcOut, KCall_ret, KCall_pan, skipF_nil, skipF_cons, Qseq_normal, Qseq_ret, Qseq_exit, Qseq_pan, Qblk_normal, Qblk_exit, Qblk_ret, Qblk_pan, Qpan_eq, Qcut_normal, Qcut_exit, Qcut_ret, Qcut_pan, Qloop_normal, Qloop_exit, Qloop_ret, Qloop_pan,
    stepOp, ev, upd_apply, putF, cellsOf, deref, faddrV, mk, abin, abinI, abinS, ibits, aeqb, aun, fldV, idxOf, elems, isPtr, putRef, splice, fillA, rowsA, minV, peqV, elemsA, rowBytes, strOf, Store.get_push, Store.get_set, Store.n_push, Store.n_set,
    Option.map_some, Option.map_none, reduceIte, Nat.reduceEqDiff, Nat.reduceAdd, Nat.reduceLeDiff, Nat.reduceLT, Nat.zero_add, Nat.add_zero, Nat.add_assoc, Nat.add_left_cancel_iff, Nat.left_eq_add, Nat.add_eq_left, Nat.lt_irrefl, Nat.le_refl,
    List.drop_zero, List.drop_succ_cons, List.take_succ_cons, List.take_zero, List.headD_cons, List.length_cons, List.length_nil, List.getElem?_cons_zero, List.getElem?_cons_succ, List.set_cons_zero, List.set_cons_succ, List.map_cons, List.map_nil,
    Bool.not_true, Bool.not_false, Bool.false_eq_true, Bool.true_eq_false, Bool.not_eq_true', Bool.not_eq_false', eq_self, false_imp_iff, true_imp_iff, and_true, true_and, and_false, false_and, or_true, true_or, initFr, fr0_at, Qend, resL, resV1, pack,
    decide_eq_true_eq, decide_eq_false_iff_not, Int.toNat_natCast, Option.some.injEq, exists_eq_left', vc_cond2, vcC2_bool, vcCB_T, vcCB_F, vcCB_dec, decide_true, decide_false]
      intro _
      exact ⟨(((hx _).push _).set _ _ (by omega)).set _ _ (by omega), .inl ⟨_, rfl, Wk.refl _⟩⟩

theorem has61 : hasBody prog 61 = true := by kernel_rfl
theorem c40 (b : List UInt8) : Pure prog 40 [.str b] (.tup [.agg (encE (readS b).1), .int .i64 ((readS b).2 : Nat)]) := by
  refine Pure.out (fun n => by simp only [nm, nmL, and_true]; exact readS_bare b n) fun S => ?_
  refine acalls_of_defer (l0 := PA40) (l1 := PB40) func40 rfl (by unfold PA40; kernel_rfl) (by unfold PB40; kernel_rfl) (rs := [.cell 2 true 5, .cell 3 false 1]) (by kernel_rfl) rfl rfl rfl rfl has61 rfl rfl rfl (by decide) (by show 1 ≤ f40.ntmps; decide) ?_
  have hx := (Ext.refl S).push
  have h62 := c62 (b.length + 1) b 0 (by omega) (by omega)
  have hc0 : ((0 : Nat) : Int) = 0 := rfl
  rw [hc0] at h62
  have hn01 : ¬ S.n + 1 = S.n := by omega
  have wz : ∀ n : Nat, Wk (.tup [.agg [.int .i64 0, .int .i64 0, .bool false, .str [], .lit (.slice none 0 0)], .int .i64 (n : Nat)]) (.tup [.agg (encE zE), .int .i64 (n : Nat)]) := fun n =>
    Wk.tup (.cons (Wk.agg (.cons (Wk.refl _) (.cons (Wk.refl _) (.cons (Wk.refl _) (.cons (Wk.refl _) (.cons (Wk.nil 5) .nil)))))) (WkL.refl _))
  simp -implicitDefEqProofs only [PA40, PB40, QFst, vc_region, vc_quiet, vcD_nil, vcD_val2, vcDO_val, vcDO_asks, vcD_eff, vcD_guard2, vcDG_TT, vcDG_FF, vcDG_TF, vcDG_FT, vcDG_und, vcDG_Tdec, vcDG_Fdec, vcDEff, saysAll, pendAll, pendNext, addPend, Says, vc_bad, vc_seq, vc_ret, vc_skip, vc_block, vc_exit, vcGrps_nil, vcGrps_cons, vcGrps_guard2, vcG2_bool, vcG2_und, vcGB_TT, vcGB_FF, vcGB_TF, vcGB_FT, vcGB_Tdec, vcGB_Fdec, vcOps_nil, vcOps_cons, vcOut, KCall_ret, KCall_pan, skipF_nil, skipF_cons, Qseq_normal, Qseq_ret, Qseq_exit, Qseq_pan, Qblk_normal, Qblk_exit, Qblk_ret, Qblk_pan, Qpan_eq, Qcut_normal, Qcut_exit, Qcut_ret, Qcut_pan, Qloop_normal, Qloop_exit, Qloop_ret, Qloop_pan,
    stepOp, ev, upd_apply, putF, cellsOf, deref, faddrV, mk, abin, abinI, abinS, ibits, aeqb, aun, fldV, idxOf, elems, isPtr, putRef, splice, fillA, rowsA, minV, peqV, elemsA, rowBytes, strOf, Store.get_push, Store.get_set, Store.n_push, Store.n_set,
    Option.map_some, Option.map_none, reduceIte, Nat.reduceEqDiff, Nat.reduceAdd, Nat.reduceLeDiff, Nat.reduceLT, Nat.zero_add, Nat.add_zero, Nat.add_assoc, Nat.add_left_cancel_iff, Nat.left_eq_add, Nat.add_eq_left, Nat.lt_irrefl, Nat.le_refl,
    List.drop_zero, List.drop_succ_cons, List.take_succ_cons, List.take_zero, List.headD_cons, List.length_cons, List.length_nil, List.getElem?_cons_zero, List.getElem?_cons_succ, List.set_cons_zero, List.set_cons_succ, List.map_cons, List.map_nil,
    Bool.not_true, Bool.not_false, Bool.false_eq_true, Bool.true_eq_false, Bool.not_eq_true', Bool.not_eq_false', eq_self, false_imp_iff, true_imp_iff, and_true, true_and, and_false, false_and, or_true, true_or, initFr, fr0_at, Qend, resL, resV1, pack,
    decide_eq_true_eq, decide_eq_false_iff_not, Int.toNat_natCast, Option.some.injEq, exists_eq_left', vc_cond2, vcC2_bool, vcCB_T, vcCB_F, vcCB_dec, decide_true, decide_false]
  refine (h62 _).mono ?_
  rintro r T ⟨rfl, rfl⟩
  unfold readS
  cases hr : readF (b.length + 1) b 0 with
  | err n =>
    simp -implicitDefEqProofs only [resV, QPut, vc_region, vc_quiet, vcD_nil, vcD_val2, vcDO_val, vcDO_asks, vcD_eff, vcD_guard2, vcDG_TT, vcDG_FF, vcDG_TF, vcDG_FT, vcDG_und, vcDG_Tdec, vcDG_Fdec, vcDEff, saysAll, pendAll, pendNext, addPend, Says, vc_bad, vc_seq, vc_ret, vc_skip, vc_block, vc_exit, vcGrps_nil, vcGrps_cons, vcGrps_guard2, vcG2_bool, vcG2_und, vcGB_TT, vcGB_FF, vcGB_TF, vcGB_FT, vcGB_Tdec, vcGB_Fdec, vcOps_nil, vcOps_cons, vcOut, KCall_ret, KCall_pan, skipF_nil, skipF_cons, Qseq_normal, Qseq_ret, Qseq_exit, Qseq_pan, Qblk_normal, Qblk_exit, Qblk_ret, Qblk_pan, Qpan_eq, Qcut_normal, Qcut_exit, Qcut_ret, Qcut_pan, Qloop_normal, Qloop_exit, Qloop_ret, Qloop_pan,
    stepOp, ev, upd_apply, putF, cellsOf, deref, faddrV, mk, abin, abinI, abinS, ibits, aeqb, aun, fldV, idxOf, elems, isPtr, putRef, splice, fillA, rowsA, minV, peqV, elemsA, rowBytes, strOf, Store.get_push, Store.get_set, Store.n_push, Store.n_set,
    Option.map_some, Option.map_none, reduceIte, Nat.reduceEqDiff, Nat.reduceAdd, Nat.reduceLeDiff, Nat.reduceLT, Nat.zero_add, Nat.add_zero, Nat.add_assoc, Nat.add_left_cancel_iff, Nat.left_eq_add, Nat.add_eq_left, Nat.lt_irrefl, Nat.le_refl,
    List.drop_zero, List.drop_succ_cons, List.take_succ_cons, List.take_zero, List.headD_cons, List.length_cons, List.length_nil, List.getElem?_cons_zero, List.getElem?_cons_succ, List.set_cons_zero, List.set_cons_succ, List.map_cons, List.map_nil,
    Bool.not_true, Bool.not_false, Bool.false_eq_true, Bool.true_eq_false, Bool.not_eq_true', Bool.not_eq_false', eq_self, false_imp_iff, true_imp_iff, and_true, true_and, and_false, false_and, or_true, true_or, initFr, fr0_at, Qend, resL, resV1, pack,
    decide_eq_true_eq, decide_eq_false_iff_not, Int.toNat_natCast, Option.some.injEq, exists_eq_left', vc_cond2, vcC2_bool, vcCB_T, vcCB_F, vcCB_dec, decide_true, decide_false]
    refine (d61s _ _ _ (.int .i64 0) (.int .i64 0) (.bool false) (.str []) (.lit (.slice none 0 0)) (.int .i64 0) _ (by simp [Store.get_push, Store.n_push]) (by simp [Store.get_push, Store.n_push]) (by omega)).mono ?_
    rintro T rfl
    simp -implicitDefEqProofs only [Z5, vc_region, vc_quiet, vcD_nil, vcD_val2, vcDO_val, vcDO_asks, vcD_eff, vcD_guard2, vcDG_TT, vcDG_FF, vcDG_TF, vcDG_FT, vcDG_und, vcDG_Tdec, vcDG_Fdec, vcDEff, saysAll, pendAll, pendNext, addPend, Says, vc_bad, vc_seq, vc_ret, vc_skip, vc_block, vc_exit, vcGrps_nil, vcGrps_cons, vcGrps_guard2, vcG2_bool, vcG2_und, vcGB_TT, vcGB_FF, vcGB_TF, vcGB_FT, vcGB_Tdec, vcGB_Fdec, vcOps_nil, vcOps_cons, vcOut, KCall_ret, KCall_pan, skipF_nil, skipF_cons, Qseq_normal, Qseq_ret, Qseq_exit, Qseq_pan, Qblk_normal, Qblk_exit, Qblk_ret, Qblk_pan, Qpan_eq, Qcut_normal, Qcut_exit, Qcut_ret, Qcut_pan, Qloop_normal, Qloop_exit, Qloop_ret, Qloop_pan,
    stepOp, ev, upd_apply, putF, cellsOf, deref, faddrV, mk, abin, abinI, abinS, ibits, aeqb, aun, fldV, idxOf, elems, isPtr, putRef, splice, fillA, rowsA, minV, peqV, elemsA, rowBytes, strOf, Store.get_push, Store.get_set, Store.n_push, Store.n_set,
    Option.map_some, Option.map_none, reduceIte, Nat.reduceEqDiff, Nat.reduceAdd, Nat.reduceLeDiff, Nat.reduceLT, Nat.zero_add, Nat.add_zero, Nat.add_assoc, Nat.add_left_cancel_iff, Nat.left_eq_add, Nat.add_eq_left, Nat.lt_irrefl, Nat.le_refl,
    List.drop_zero, List.drop_succ_cons, List.take_succ_cons, List.take_zero, List.headD_cons, List.length_cons, List.length_nil, List.getElem?_cons_zero, List.getElem?_cons_succ, List.set_cons_zero, List.set_cons_succ, List.map_cons, List.map_nil,
    Bool.not_true, Bool.not_false, Bool.false_eq_true, Bool.true_eq_false, Bool.not_eq_true', Bool.not_eq_false', eq_self, false_imp_iff, true_imp_iff, and_true, true_and, and_false, false_and, or_true, true_or, initFr, fr0_at, Qend, resL, resV1, pack,
    decide_eq_true_eq, decide_eq_false_iff_not, Int.toNat_natCast, Option.some.injEq, exists_eq_left', vc_cond2, vcC2_bool, vcCB_T, vcCB_F, vcCB_dec, decide_true, decide_false]
    exact ⟨(((hx _).push _).set _ _ (by omega)).set _ _ (by omega), .inl ⟨_, rfl, wz n⟩⟩
  | ok x r =>
    by_cases hr0 : r = []
    · simp -implicitDefEqProofs only [resV, QPut, hr0, encE_length, encE_take5, splice_encE, splice, ne_eq, not_true, not_false_eq_true, vc_region, vc_quiet, vcD_nil, vcD_val2, vcDO_val, vcDO_asks, vcD_eff, vcD_guard2, vcDG_TT, vcDG_FF, vcDG_TF, vcDG_FT, vcDG_und, vcDG_Tdec, vcDG_Fdec, vcDEff, saysAll, pendAll, pendNext, addPend, Says, vc_bad, vc_seq, vc_ret, vc_skip, vc_block, vc_exit, vcGrps_nil, vcGrps_cons, vcGrps_guard2, vcG2_bool, vcG2_und, vcGB_TT, vcGB_FF, vcGB_TF, vcGB_FT, vcGB_Tdec, vcGB_Fdec, vcOps_nil, vcOps_cons, vcOut, KCall_ret, KCall_pan, skipF_nil, skipF_cons, Qseq_normal, Qseq_ret, Qseq_exit, Qseq_pan, Qblk_normal, Qblk_exit, Qblk_ret, Qblk_pan, Qpan_eq, Qcut_normal, Qcut_exit, Qcut_ret, Qcut_pan, Qloop_normal, Qloop_exit, Qloop_ret, Qloop_pan,
    stepOp, ev, upd_apply, putF, cellsOf, deref, faddrV, mk, abin, abinI, abinS, ibits, aeqb, aun, fldV, idxOf, elems, isPtr, putRef, splice, fillA, rowsA, minV, peqV, elemsA, rowBytes, strOf, Store.get_push, Store.get_set, Store.n_push, Store.n_set,
    Option.map_some, Option.map_none, reduceIte, Nat.reduceEqDiff, Nat.reduceAdd, Nat.reduceLeDiff, Nat.reduceLT, Nat.zero_add, Nat.add_zero, Nat.add_assoc, Nat.add_left_cancel_iff, Nat.left_eq_add, Nat.add_eq_left, Nat.lt_irrefl, Nat.le_refl,
    List.drop_zero, List.drop_succ_cons, List.take_succ_cons, List.take_zero, List.headD_cons, List.length_cons, List.length_nil, List.getElem?_cons_zero, List.getElem?_cons_succ, List.set_cons_zero, List.set_cons_succ, List.map_cons, List.map_nil,
    Bool.not_true, Bool.not_false, Bool.false_eq_true, Bool.true_eq_false, Bool.not_eq_true', Bool.not_eq_false', eq_self, false_imp_iff, true_imp_iff, and_true, true_and, and_false, false_and, or_true, true_or, initFr, fr0_at, Qend, resL, resV1, pack,
    decide_eq_true_eq, decide_eq_false_iff_not, Int.toNat_natCast, Option.some.injEq, exists_eq_left', vc_cond2, vcC2_bool, vcCB_T, vcCB_F, vcCB_dec, decide_true, decide_false]
      refine (d61n _ _ _).mono ?_
      rintro T rfl
      simp -implicitDefEqProofs only [hr0, encE_length, encE_take5, vc_region, vc_quiet, vcD_nil, vcD_val2, vcDO_val, vcDO_asks, vcD_eff, vcD_guard2, vcDG_TT, vcDG_FF, vcDG_TF, vcDG_FT, vcDG_und, vcDG_Tdec, vcDG_Fdec, vcDEff, saysAll, pendAll, pendNext, addPend, Says, vc_bad, vc_seq, vc_ret, vc_skip, vc_block, vc_exit, vcGrps_nil, vcGrps_cons, vcGrps_guard2, vcG2_bool, vcG2_und, vcGB_TT, vcGB_FF, vcGB_TF, vcGB_FT, vcGB_Tdec, vcGB_Fdec, vcOps_nil, vcOps_cons, vcOut, KCall_ret, KCall_pan, skipF_nil, skipF_cons, Qseq_normal, Qseq_ret, Qseq_exit, Qseq_pan, Qblk_normal, Qblk_exit, Qblk_ret, Qblk_pan, Qpan_eq, Qcut_normal, Qcut_exit, Qcut_ret, Qcut_pan, Qloop_normal, Qloop_exit, Qloop_ret, Qloop_pan,
    stepOp, ev, upd_apply, putF, cellsOf, deref, faddrV, mk, abin, abinI, abinS, ibits, aeqb, aun, fldV, idxOf, elems, isPtr, putRef, splice, fillA, rowsA, minV, peqV, elemsA, rowBytes, strOf, Store.get_push, Store.get_set, Store.n_push, Store.n_set,
    Option.map_some, Option.map_none, reduceIte, Nat.reduceEqDiff, Nat.reduceAdd, Nat.reduceLeDiff, Nat.reduceLT, Nat.zero_add, Nat.add_zero, Nat.add_assoc, Nat.add_left_cancel_iff, Nat.left_eq_add, Nat.add_eq_left, Nat.lt_irrefl, Nat.le_refl,
    List.drop_zero, List.drop_succ_cons, List.take_succ_cons, List.take_zero, List.headD_cons, List.length_cons, List.length_nil, List.getElem?_cons_zero, List.getElem?_cons_succ, List.set_cons_zero, List.set_cons_succ, List.map_cons, List.map_nil,
    Bool.not_true, Bool.not_false, Bool.false_eq_true, Bool.true_eq_false, Bool.not_eq_true', Bool.not_eq_false', eq_self, false_imp_iff, true_imp_iff, and_true, true_and, and_false, false_and, or_true, true_or, initFr, fr0_at, Qend, resL, resV1, pack,
    decide_eq_true_eq, decide_eq_false_iff_not, Int.toNat_natCast, Option.some.injEq, exists_eq_left', vc_cond2, vcC2_bool, vcCB_T, vcCB_F, vcCB_dec, decide_true, decide_false]
      exact ⟨(((((hx _).push _).push _).set _ _ (by omega)).set _ _ (by omega)).set _ _ (by omega), .inl ⟨_, rfl, Wk.refl _⟩⟩
    · simp -implicitDefEqProofs only [resV, QPut, hr0, encE_length, encE_take5, splice_encE, splice, ne_eq, not_true, not_false_eq_true, vc_region, vc_quiet, vcD_nil, vcD_val2, vcDO_val, vcDO_asks, vcD_eff, vcD_guard2, vcDG_TT, vcDG_FF, vcDG_TF, vcDG_FT, vcDG_und, vcDG_Tdec, vcDG_Fdec, vcDEff, saysAll, pendAll, pendNext, addPend, Says, vc_bad, vc_seq, vc_ret, vc_skip, vc_block, vc_exit, vcGrps_nil, vcGrps_cons, vcGrps_guard2, vcG2_bool, vcG2_und, vcGB_TT, vcGB_FF, vcGB_TF, vcGB_FT, vcGB_Tdec, vcGB_Fdec, vcOps_nil, vcOps_cons, vcOut, KCall_ret, KCall_pan, skipF_nil, skipF_cons, Qseq_normal, Qseq_ret, Qseq_exit, Qseq_pan, Qblk_normal, Qblk_exit, Qblk_ret, Qblk_pan, Qpan_eq, Qcut_normal, Qcut_exit, Qcut_ret, Qcut_pan, Qloop_normal, Qloop_exit, Qloop_ret, Qloop_pan,
    stepOp, ev, upd_apply, putF, cellsOf, deref, faddrV, mk, abin, abinI, abinS, ibits, aeqb, aun, fldV, idxOf, elems, isPtr, putRef, splice, fillA, rowsA, minV, peqV, elemsA, rowBytes, strOf, Store.get_push, Store.get_set, Store.n_push, Store.n_set,
    Option.map_some, Option.map_none, reduceIte, Nat.reduceEqDiff, Nat.reduceAdd, Nat.reduceLeDiff, Nat.reduceLT, Nat.zero_add, Nat.add_zero, Nat.add_assoc, Nat.add_left_cancel_iff, Nat.left_eq_add, Nat.add_eq_left, Nat.lt_irrefl, Nat.le_refl,
    List.drop_zero, List.drop_succ_cons, List.take_succ_cons, List.take_zero, List.headD_cons, List.length_cons, List.length_nil, List.getElem?_cons_zero, List.getElem?_cons_succ, List.set_cons_zero, List.set_cons_succ, List.map_cons, List.map_nil,
    Bool.not_true, Bool.not_false, Bool.false_eq_true, Bool.true_eq_false, Bool.not_eq_true', Bool.not_eq_false', eq_self, false_imp_iff, true_imp_iff, and_true, true_and, and_false, false_and, or_true, true_or, initFr, fr0_at, Qend, resL, resV1, pack,
    decide_eq_true_eq, decide_eq_false_iff_not, Int.toNat_natCast, Option.some.injEq, exists_eq_left', vc_cond2, vcC2_bool, vcCB_T, vcCB_F, vcCB_dec, decide_true, decide_false]
      refine (d61n _ _ _).mono ?_
      rintro T rfl
      simp -implicitDefEqProofs only [hr0, encE_length, encE_take5, vc_region, vc_quiet, vcD_nil, vcD_val2, vcDO_val, vcDO_asks, vcD_eff, vcD_guard2, vcDG_TT, vcDG_FF, vcDG_TF, vcDG_FT, vcDG_und, vcDG_Tdec, vcDG_Fdec, vcDEff, saysAll, pendAll, pendNext, addPend, Says, vc_bad, vc_seq, vc_ret, vc_skip, vc_block, vc_exit, vcGrps_nil, vcGrps_cons, vcGrps_guard2, vcG2_bool, vcG2_und, vcGB_TT, vcGB_FF, vcGB_TF, vcGB_FT, vcGB_Tdec, vcGB_Fdec, vcOps_nil, vcOps_cons, vcOut, KCall_ret, KCall_pan, skipF_nil, skipF_cons, Qseq_normal, Qseq_ret, Qseq_exit, Qseq_pan, Qblk_normal, Qblk_exit, Qblk_ret, Qblk_pan, Qpan_eq, Qcut_normal, Qcut_exit, Qcut_ret, Qcut_pan, Qloop_normal, Qloop_exit, Qloop_ret, Qloop_pan,
    stepOp, ev, upd_apply, putF, cellsOf, deref, faddrV, mk, abin, abinI, abinS, ibits, aeqb, aun, fldV, idxOf, elems, isPtr, putRef, splice, fillA, rowsA, minV, peqV, elemsA, rowBytes, strOf, Store.get_push, Store.get_set, Store.n_push, Store.n_set,
    Option.map_some, Option.map_none, reduceIte, Nat.reduceEqDiff, Nat.reduceAdd, Nat.reduceLeDiff, Nat.reduceLT, Nat.zero_add, Nat.add_zero, Nat.add_assoc, Nat.add_left_cancel_iff, Nat.left_eq_add, Nat.add_eq_left, Nat.lt_irrefl, Nat.le_refl,
    List.drop_zero, List.drop_succ_cons, List.take_succ_cons, List.take_zero, List.headD_cons, List.length_cons, List.length_nil, List.getElem?_cons_zero, List.getElem?_cons_succ, List.set_cons_zero, List.set_cons_succ, List.map_cons, List.map_nil,
    Bool.not_true, Bool.not_false, Bool.false_eq_true, Bool.true_eq_false, Bool.not_eq_true', Bool.not_eq_false', eq_self, false_imp_iff, true_imp_iff, and_true, true_and, and_false, false_and, or_true, true_or, initFr, fr0_at, Qend, resL, resV1, pack,
    decide_eq_true_eq, decide_eq_false_iff_not, Int.toNat_natCast, Option.some.injEq, exists_eq_left', vc_cond2, vcC2_bool, vcCB_T, vcCB_F, vcCB_dec, decide_true, decide_false]
      exact ⟨(((((hx _).push _).push _).set _ _ (by omega)).set _ _ (by omega)).set _ _ (by omega), .inl ⟨_, rfl, wz 25⟩⟩
end Go.Proofs.Ytmlllckecalaaaa.Eng

namespace Go.Proofs.Ytmlllckecalaaaa.Eng
open Go Go.Proofs.Try

theorem same_refl2 (e : Elem) : sameS e e = true := same_of _ _ rfl
theorem c7 (b : List UInt8) : Pure prog 7 [.str b] (.bool true) := by
  refine Pure.of (fun _ _ => by simp only [nm]) fun S => acalls_of_vc low7 (by simp) ?_
  have hx := Ext.refl S
  simp -implicitDefEqProofs only [B7, vc_region, vc_quiet, vcD_nil, vcD_val2, vcDO_val, vcDO_asks, vcD_eff, vcD_guard2, vcDG_TT, vcDG_FF, vcDG_TF, vcDG_FT, vcDG_und, vcDG_Tdec, vcDG_Fdec, vcDEff, saysAll, pendAll, pendNext, addPend, Says, vc_bad, vc_seq, vc_ret, vc_skip, vc_block, vc_exit, vcGrps_nil, vcGrps_cons, vcGrps_guard2, vcG2_bool, vcG2_und, vcGB_TT, vcGB_FF, vcGB_TF, vcGB_FT, vcGB_Tdec, vcGB_Fdec, vcOps_nil, vcOps_cons, vcOut, KCall_ret, KCall_pan, skipF_nil, skipF_cons, Qseq_normal, Qseq_ret, Qseq_exit, Qseq_pan, Qblk_normal, Qblk_exit, Qblk_ret, Qblk_pan, Qpan_eq, Qcut_normal, Qcut_exit, Qcut_ret, Qcut_pan, Qloop_normal, Qloop_exit, Qloop_ret, Qloop_pan,
    stepOp, ev, upd_apply, putF, cellsOf, deref, faddrV, mk, abin, abinI, abinS, ibits, aeqb, aun, fldV, idxOf, elems, isPtr, putRef, splice, fillA, rowsA, minV, peqV, elemsA, rowBytes, strOf, Store.get_push, Store.get_set, Store.n_push, Store.n_set,
    Option.map_some, Option.map_none, reduceIte, Nat.reduceEqDiff, Nat.reduceAdd, Nat.reduceLeDiff, Nat.reduceLT, Nat.zero_add, Nat.add_zero, Nat.add_assoc, Nat.add_left_cancel_iff, Nat.left_eq_add, Nat.add_eq_left, Nat.lt_irrefl, Nat.le_refl,
    List.drop_zero, List.drop_succ_cons, List.take_succ_cons, List.take_zero, List.headD_cons, List.length_cons, List.length_nil, List.getElem?_cons_zero, List.getElem?_cons_succ, List.set_cons_zero, List.set_cons_succ, List.map_cons, List.map_nil,
    Bool.not_true, Bool.not_false, Bool.false_eq_true, Bool.true_eq_false, Bool.not_eq_true', Bool.not_eq_false', eq_self, false_imp_iff, true_imp_iff, and_true, true_and, and_false, false_and, or_true, true_or, initFr, fr0_at, Qend, resL, resV1, pack,
    decide_eq_true_eq, decide_eq_false_iff_not, Int.toNat_natCast, Option.some.injEq, exists_eq_left', vc_cond2, vcC2_bool, vcCB_T, vcCB_F, vcCB_dec, decide_true, decide_false]
  intro _
  refine ⟨fun _ => ?_, fun _ => ?_⟩
  · refine c13.use ?_
    simp -implicitDefEqProofs only [vc_region, vc_quiet, vcD_nil, vcD_val2, vcDO_val, vcDO_asks, vcD_eff, vcD_guard2, vcDG_TT, vcDG_FF, vcDG_TF, vcDG_FT, vcDG_und, vcDG_Tdec, vcDG_Fdec, vcDEff, saysAll, pendAll, pendNext, addPend, Says, vc_bad, vc_seq, vc_ret, vc_skip, vc_block, vc_exit, vcGrps_nil, vcGrps_cons, vcGrps_guard2, vcG2_bool, vcG2_und, vcGB_TT, vcGB_FF, vcGB_TF, vcGB_FT, vcGB_Tdec, vcGB_Fdec, vcOps_nil, vcOps_cons, vcOut, KCall_ret, KCall_pan, skipF_nil, skipF_cons, Qseq_normal, Qseq_ret, Qseq_exit, Qseq_pan, Qblk_normal, Qblk_exit, Qblk_ret, Qblk_pan, Qpan_eq, Qcut_normal, Qcut_exit, Qcut_ret, Qcut_pan, Qloop_normal, Qloop_exit, Qloop_ret, Qloop_pan,
    stepOp, ev, upd_apply, putF, cellsOf, deref, faddrV, mk, abin, abinI, abinS, ibits, aeqb, aun, fldV, idxOf, elems, isPtr, putRef, splice, fillA, rowsA, minV, peqV, elemsA, rowBytes, strOf, Store.get_push, Store.get_set, Store.n_push, Store.n_set,
    Option.map_some, Option.map_none, reduceIte, Nat.reduceEqDiff, Nat.reduceAdd, Nat.reduceLeDiff, Nat.reduceLT, Nat.zero_add, Nat.add_zero, Nat.add_assoc, Nat.add_left_cancel_iff, Nat.left_eq_add, Nat.add_eq_left, Nat.lt_irrefl, Nat.le_refl,
    List.drop_zero, List.drop_succ_cons, List.take_succ_cons, List.take_zero, List.headD_cons, List.length_cons, List.length_nil, List.getElem?_cons_zero, List.getElem?_cons_succ, List.set_cons_zero, List.set_cons_succ, List.map_cons, List.map_nil,
    Bool.not_true, Bool.not_false, Bool.false_eq_true, Bool.true_eq_false, Bool.not_eq_true', Bool.not_eq_false', eq_self, false_imp_iff, true_imp_iff, and_true, true_and, and_false, false_and, or_true, true_or, initFr, fr0_at, Qend, resL, resV1, pack,
    decide_eq_true_eq, decide_eq_false_iff_not, Int.toNat_natCast, Option.some.injEq, exists_eq_left', vc_cond2, vcC2_bool, vcCB_T, vcCB_F, vcCB_dec, decide_true, decide_false]
    exact hx
  refine (c19 b).use ?_
  simp -implicitDefEqProofs only [vc_region, vc_quiet, vcD_nil, vcD_val2, vcDO_val, vcDO_asks, vcD_eff, vcD_guard2, vcDG_TT, vcDG_FF, vcDG_TF, vcDG_FT, vcDG_und, vcDG_Tdec, vcDG_Fdec, vcDEff, saysAll, pendAll, pendNext, addPend, Says, vc_bad, vc_seq, vc_ret, vc_skip, vc_block, vc_exit, vcGrps_nil, vcGrps_cons, vcGrps_guard2, vcG2_bool, vcG2_und, vcGB_TT, vcGB_FF, vcGB_TF, vcGB_FT, vcGB_Tdec, vcGB_Fdec, vcOps_nil, vcOps_cons, vcOut, KCall_ret, KCall_pan, skipF_nil, skipF_cons, Qseq_normal, Qseq_ret, Qseq_exit, Qseq_pan, Qblk_normal, Qblk_exit, Qblk_ret, Qblk_pan, Qpan_eq, Qcut_normal, Qcut_exit, Qcut_ret, Qcut_pan, Qloop_normal, Qloop_exit, Qloop_ret, Qloop_pan,
    stepOp, ev, upd_apply, putF, cellsOf, deref, faddrV, mk, abin, abinI, abinS, ibits, aeqb, aun, fldV, idxOf, elems, isPtr, putRef, splice, fillA, rowsA, minV, peqV, elemsA, rowBytes, strOf, Store.get_push, Store.get_set, Store.n_push, Store.n_set,
    Option.map_some, Option.map_none, reduceIte, Nat.reduceEqDiff, Nat.reduceAdd, Nat.reduceLeDiff, Nat.reduceLT, Nat.zero_add, Nat.add_zero, Nat.add_assoc, Nat.add_left_cancel_iff, Nat.left_eq_add, Nat.add_eq_left, Nat.lt_irrefl, Nat.le_refl,
    List.drop_zero, List.drop_succ_cons, List.take_succ_cons, List.take_zero, List.headD_cons, List.length_cons, List.length_nil, List.getElem?_cons_zero, List.getElem?_cons_succ, List.set_cons_zero, List.set_cons_succ, List.map_cons, List.map_nil,
    Bool.not_true, Bool.not_false, Bool.false_eq_true, Bool.true_eq_false, Bool.not_eq_true', Bool.not_eq_false', eq_self, false_imp_iff, true_imp_iff, and_true, true_and, and_false, false_and, or_true, true_or, initFr, fr0_at, Qend, resL, resV1, pack,
    decide_eq_true_eq, decide_eq_false_iff_not, Int.toNat_natCast, Option.some.injEq, exists_eq_left', vc_cond2, vcC2_bool, vcCB_T, vcCB_F, vcCB_dec, decide_true, decide_false]
  refine (c39 b).use ?_
  simp -implicitDefEqProofs only [vc_region, vc_quiet, vcD_nil, vcD_val2, vcDO_val, vcDO_asks, vcD_eff, vcD_guard2, vcDG_TT, vcDG_FF, vcDG_TF, vcDG_FT, vcDG_und, vcDG_Tdec, vcDG_Fdec, vcDEff, saysAll, pendAll, pendNext, addPend, Says, vc_bad, vc_seq, vc_ret, vc_skip, vc_block, vc_exit, vcGrps_nil, vcGrps_cons, vcGrps_guard2, vcG2_bool, vcG2_und, vcGB_TT, vcGB_FF, vcGB_TF, vcGB_FT, vcGB_Tdec, vcGB_Fdec, vcOps_nil, vcOps_cons, vcOut, KCall_ret, KCall_pan, skipF_nil, skipF_cons, Qseq_normal, Qseq_ret, Qseq_exit, Qseq_pan, Qblk_normal, Qblk_exit, Qblk_ret, Qblk_pan, Qpan_eq, Qcut_normal, Qcut_exit, Qcut_ret, Qcut_pan, Qloop_normal, Qloop_exit, Qloop_ret, Qloop_pan,
    stepOp, ev, upd_apply, putF, cellsOf, deref, faddrV, mk, abin, abinI, abinS, ibits, aeqb, aun, fldV, idxOf, elems, isPtr, putRef, splice, fillA, rowsA, minV, peqV, elemsA, rowBytes, strOf, Store.get_push, Store.get_set, Store.n_push, Store.n_set,
    Option.map_some, Option.map_none, reduceIte, Nat.reduceEqDiff, Nat.reduceAdd, Nat.reduceLeDiff, Nat.reduceLT, Nat.zero_add, Nat.add_zero, Nat.add_assoc, Nat.add_left_cancel_iff, Nat.left_eq_add, Nat.add_eq_left, Nat.lt_irrefl, Nat.le_refl,
    List.drop_zero, List.drop_succ_cons, List.take_succ_cons, List.take_zero, List.headD_cons, List.length_cons, List.length_nil, List.getElem?_cons_zero, List.getElem?_cons_succ, List.set_cons_zero, List.set_cons_succ, List.map_cons, List.map_nil,
    Bool.not_true, Bool.not_false, Bool.false_eq_true, Bool.true_eq_false, Bool.not_eq_true', Bool.not_eq_false', eq_self, false_imp_iff, true_imp_iff, and_true, true_and, and_false, false_and, or_true, true_or, initFr, fr0_at, Qend, resL, resV1, pack,
    decide_eq_true_eq, decide_eq_false_iff_not, Int.toNat_natCast, Option.some.injEq, exists_eq_left', vc_cond2, vcC2_bool, vcCB_T, vcCB_F, vcCB_dec, decide_true, decide_false]
  refine (c40 b).use ?_
  simp -implicitDefEqProofs only [encE_length, encE_take5, splice_encE, vc_region, vc_quiet, vcD_nil, vcD_val2, vcDO_val, vcDO_asks, vcD_eff, vcD_guard2, vcDG_TT, vcDG_FF, vcDG_TF, vcDG_FT, vcDG_und, vcDG_Tdec, vcDG_Fdec, vcDEff, saysAll, pendAll, pendNext, addPend, Says, vc_bad, vc_seq, vc_ret, vc_skip, vc_block, vc_exit, vcGrps_nil, vcGrps_cons, vcGrps_guard2, vcG2_bool, vcG2_und, vcGB_TT, vcGB_FF, vcGB_TF, vcGB_FT, vcGB_Tdec, vcGB_Fdec, vcOps_nil, vcOps_cons, vcOut, KCall_ret, KCall_pan, skipF_nil, skipF_cons, Qseq_normal, Qseq_ret, Qseq_exit, Qseq_pan, Qblk_normal, Qblk_exit, Qblk_ret, Qblk_pan, Qpan_eq, Qcut_normal, Qcut_exit, Qcut_ret, Qcut_pan, Qloop_normal, Qloop_exit, Qloop_ret, Qloop_pan,
    stepOp, ev, upd_apply, putF, cellsOf, deref, faddrV, mk, abin, abinI, abinS, ibits, aeqb, aun, fldV, idxOf, elems, isPtr, putRef, splice, fillA, rowsA, minV, peqV, elemsA, rowBytes, strOf, Store.get_push, Store.get_set, Store.n_push, Store.n_set,
    Option.map_some, Option.map_none, reduceIte, Nat.reduceEqDiff, Nat.reduceAdd, Nat.reduceLeDiff, Nat.reduceLT, Nat.zero_add, Nat.add_zero, Nat.add_assoc, Nat.add_left_cancel_iff, Nat.left_eq_add, Nat.add_eq_left, Nat.lt_irrefl, Nat.le_refl,
    List.drop_zero, List.drop_succ_cons, List.take_succ_cons, List.take_zero, List.headD_cons, List.length_cons, List.length_nil, List.getElem?_cons_zero, List.getElem?_cons_succ, List.set_cons_zero, List.set_cons_succ, List.map_cons, List.map_nil,
    Bool.not_true, Bool.not_false, Bool.false_eq_true, Bool.true_eq_false, Bool.not_eq_true', Bool.not_eq_false', eq_self, false_imp_iff, true_imp_iff, and_true, true_and, and_false, false_and, or_true, true_or, initFr, fr0_at, Qend, resL, resV1, pack,
    decide_eq_true_eq, decide_eq_false_iff_not, Int.toNat_natCast, Option.some.injEq, exists_eq_left', vc_cond2, vcC2_bool, vcCB_T, vcCB_F, vcCB_dec, decide_true, decide_false]
  refine (c41 b).use ?_
  simp -implicitDefEqProofs only [encE_length, encE_take5, splice_encE, vc_region, vc_quiet, vcD_nil, vcD_val2, vcDO_val, vcDO_asks, vcD_eff, vcD_guard2, vcDG_TT, vcDG_FF, vcDG_TF, vcDG_FT, vcDG_und, vcDG_Tdec, vcDG_Fdec, vcDEff, saysAll, pendAll, pendNext, addPend, Says, vc_bad, vc_seq, vc_ret, vc_skip, vc_block, vc_exit, vcGrps_nil, vcGrps_cons, vcGrps_guard2, vcG2_bool, vcG2_und, vcGB_TT, vcGB_FF, vcGB_TF, vcGB_FT, vcGB_Tdec, vcGB_Fdec, vcOps_nil, vcOps_cons, vcOut, KCall_ret, KCall_pan, skipF_nil, skipF_cons, Qseq_normal, Qseq_ret, Qseq_exit, Qseq_pan, Qblk_normal, Qblk_exit, Qblk_ret, Qblk_pan, Qpan_eq, Qcut_normal, Qcut_exit, Qcut_ret, Qcut_pan, Qloop_normal, Qloop_exit, Qloop_ret, Qloop_pan,
    stepOp, ev, upd_apply, putF, cellsOf, deref, faddrV, mk, abin, abinI, abinS, ibits, aeqb, aun, fldV, idxOf, elems, isPtr, putRef, splice, fillA, rowsA, minV, peqV, elemsA, rowBytes, strOf, Store.get_push, Store.get_set, Store.n_push, Store.n_set,
    Option.map_some, Option.map_none, reduceIte, Nat.reduceEqDiff, Nat.reduceAdd, Nat.reduceLeDiff, Nat.reduceLT, Nat.zero_add, Nat.add_zero, Nat.add_assoc, Nat.add_left_cancel_iff, Nat.left_eq_add, Nat.add_eq_left, Nat.lt_irrefl, Nat.le_refl,
    List.drop_zero, List.drop_succ_cons, List.take_succ_cons, List.take_zero, List.headD_cons, List.length_cons, List.length_nil, List.getElem?_cons_zero, List.getElem?_cons_succ, List.set_cons_zero, List.set_cons_succ, List.map_cons, List.map_nil,
    Bool.not_true, Bool.not_false, Bool.false_eq_true, Bool.true_eq_false, Bool.not_eq_true', Bool.not_eq_false', eq_self, false_imp_iff, true_imp_iff, and_true, true_and, and_false, false_and, or_true, true_or, initFr, fr0_at, Qend, resL, resV1, pack,
    decide_eq_true_eq, decide_eq_false_iff_not, Int.toNat_natCast, Option.some.injEq, exists_eq_left', vc_cond2, vcC2_bool, vcCB_T, vcCB_F, vcCB_dec, decide_true, decide_false]
  refine c13.use ?_
  simp -implicitDefEqProofs only [encE_length, encE_take5, splice_encE, vc_region, vc_quiet, vcD_nil, vcD_val2, vcDO_val, vcDO_asks, vcD_eff, vcD_guard2, vcDG_TT, vcDG_FF, vcDG_TF, vcDG_FT, vcDG_und, vcDG_Tdec, vcDG_Fdec, vcDEff, saysAll, pendAll, pendNext, addPend, Says, vc_bad, vc_seq, vc_ret, vc_skip, vc_block, vc_exit, vcGrps_nil, vcGrps_cons, vcGrps_guard2, vcG2_bool, vcG2_und, vcGB_TT, vcGB_FF, vcGB_TF, vcGB_FT, vcGB_Tdec, vcGB_Fdec, vcOps_nil, vcOps_cons, vcOut, KCall_ret, KCall_pan, skipF_nil, skipF_cons, Qseq_normal, Qseq_ret, Qseq_exit, Qseq_pan, Qblk_normal, Qblk_exit, Qblk_ret, Qblk_pan, Qpan_eq, Qcut_normal, Qcut_exit, Qcut_ret, Qcut_pan, Qloop_normal, Qloop_exit, Qloop_ret, Qloop_pan,
    stepOp, ev, upd_apply, putF, cellsOf, deref, faddrV, mk, abin, abinI, abinS, ibits, aeqb, aun, fldV, idxOf, elems, isPtr, putRef, splice, fillA, rowsA, minV, peqV, elemsA, rowBytes, strOf, Store.get_push, Store.get_set, Store.n_push, Store.n_set,
    Option.map_some, Option.map_none, reduceIte, Nat.reduceEqDiff, Nat.reduceAdd, Nat.reduceLeDiff, Nat.reduceLT, Nat.zero_add, Nat.add_zero, Nat.add_assoc, Nat.add_left_cancel_iff, Nat.left_eq_add, Nat.add_eq_left, Nat.lt_irrefl, Nat.le_refl,
    List.drop_zero, List.drop_succ_cons, List.take_succ_cons, List.take_zero, List.headD_cons, List.length_cons, List.length_nil, List.getElem?_cons_zero, List.getElem?_cons_succ, List.set_cons_zero, List.set_cons_succ, List.map_cons, List.map_nil,
    Bool.not_true, Bool.not_false, Bool.false_eq_true, Bool.true_eq_false, Bool.not_eq_true', Bool.not_eq_false', eq_self, false_imp_iff, true_imp_iff, and_true, true_and, and_false, false_and, or_true, true_or, initFr, fr0_at, Qend, resL, resV1, pack,
    decide_eq_true_eq, decide_eq_false_iff_not, Int.toNat_natCast, Option.some.injEq, exists_eq_left', vc_cond2, vcC2_bool, vcCB_T, vcCB_F, vcCB_dec, decide_true, decide_false]
  refine (c17 _ _).use ?_
  rw [same_refl2]
  simp -implicitDefEqProofs only [encE_length, encE_take5, splice_encE, vc_region, vc_quiet, vcD_nil, vcD_val2, vcDO_val, vcDO_asks, vcD_eff, vcD_guard2, vcDG_TT, vcDG_FF, vcDG_TF, vcDG_FT, vcDG_und, vcDG_Tdec, vcDG_Fdec, vcDEff, saysAll, pendAll, pendNext, addPend, Says, vc_bad, vc_seq, vc_ret, vc_skip, vc_block, vc_exit, vcGrps_nil, vcGrps_cons, vcGrps_guard2, vcG2_bool, vcG2_und, vcGB_TT, vcGB_FF, vcGB_TF, vcGB_FT, vcGB_Tdec, vcGB_Fdec, vcOps_nil, vcOps_cons, vcOut, KCall_ret, KCall_pan, skipF_nil, skipF_cons, Qseq_normal, Qseq_ret, Qseq_exit, Qseq_pan, Qblk_normal, Qblk_exit, Qblk_ret, Qblk_pan, Qpan_eq, Qcut_normal, Qcut_exit, Qcut_ret, Qcut_pan, Qloop_normal, Qloop_exit, Qloop_ret, Qloop_pan,
    stepOp, ev, upd_apply, putF, cellsOf, deref, faddrV, mk, abin, abinI, abinS, ibits, aeqb, aun, fldV, idxOf, elems, isPtr, putRef, splice, fillA, rowsA, minV, peqV, elemsA, rowBytes, strOf, Store.get_push, Store.get_set, Store.n_push, Store.n_set,
    Option.map_some, Option.map_none, reduceIte, Nat.reduceEqDiff, Nat.reduceAdd, Nat.reduceLeDiff, Nat.reduceLT, Nat.zero_add, Nat.add_zero, Nat.add_assoc, Nat.add_left_cancel_iff, Nat.left_eq_add, Nat.add_eq_left, Nat.lt_irrefl, Nat.le_refl,
    List.drop_zero, List.drop_succ_cons, List.take_succ_cons, List.take_zero, List.headD_cons, List.length_cons, List.length_nil, List.getElem?_cons_zero, List.getElem?_cons_succ, List.set_cons_zero, List.set_cons_succ, List.map_cons, List.map_nil,
    Bool.not_true, Bool.not_false, Bool.false_eq_true, Bool.true_eq_false, Bool.not_eq_true', Bool.not_eq_false', eq_self, false_imp_iff, true_imp_iff, and_true, true_and, and_false, false_and, or_true, true_or, initFr, fr0_at, Qend, resL, resV1, pack,
    decide_eq_true_eq, decide_eq_false_iff_not, Int.toNat_natCast, Option.some.injEq, exists_eq_left', vc_cond2, vcC2_bool, vcCB_T, vcCB_F, vcCB_dec, decide_true, decide_false]
  exact (((hx.push _).set _ _ (by omega)).push _).set _ _ (by omega)
end Go.Proofs.Ytmlllckecalaaaa.Eng

namespace Go.Proofs.Ytmlllckecalaaaa.Eng
open Go Go.Proofs.Try

mutual
def allForm : Elem → Bool
  | .mk c t k b ks ext => formOk (.mk c t k b ks ext) && allForms ks
def allForms : List Elem → Bool
  | [] => true
  | k :: ks => allForm k && allForms ks
end
mutual
theorem allForm_of : ∀ (e : Elem) (w : Int), eachS formOk e w = true → deepS e w = false → allForm e = true
  | .mk c t k b ks ext, w, h, hd => by
    simp only [eachS, deepS, Bool.or_eq_true, Bool.or_eq_false_iff, decide_eq_true_eq, decide_eq_false_iff_not, Bool.and_eq_true] at h hd
    rcases h with h | h
    · exact absurd h hd.1
    · simp only [allForm, Bool.and_eq_true]; exact ⟨h.1, allForms_of ks (w + 1) h.2 hd.2⟩
theorem allForms_of : ∀ (ks : List Elem) (w : Int), eachSs formOk ks w = true → deepSs ks w = false → allForms ks = true
  | [], w, h, hd => rfl
  | k :: ks, w, h, hd => by
    simp only [eachSs, deepSs, Bool.or_eq_false_iff, Bool.and_eq_true] at h hd
    simp only [allForms, Bool.and_eq_true]; exact ⟨allForm_of k w h.1 hd.1, allForms_of ks w h.2 hd.2⟩
end

theorem take_all {α : Type} (l : List α) : l.take l.length = l := List.take_length
theorem head_put (e : Elem) (ht : tagOk e = true) (hs : sizeS e ≤ 65536) (more : List UInt8) :
    headS (putS e ++ more) = (1 + (lenS (e.bytes.length + sumS e.kids)).length, e.bytes.length + sumS e.kids, 0) := by
  obtain ⟨h1, h2, h3⟩ := sizeS_sum e hs
  have hl := putS_length e hs
  have e1 : putS e ++ more = firstS e :: (lenS (e.bytes.length + sumS e.kids) ++ (e.bytes ++ putSs e.kids ++ more)) := by rw [putS_eta]; simp
  have e2 : rheadS (putS e ++ more) = (1 + (lenS (e.bytes.length + sumS e.kids)).length, e.bytes.length + sumS e.kids, 0) := by
    have := rhead_put _ (firstS_mod e ht).1 (e.bytes.length + sumS e.kids) (by omega) (e.bytes ++ putSs e.kids ++ more) (putS e ++ more).length
    rw [← e1, take_all, if_neg (by rw [List.length_append, hl, h1]; omega)] at this
    exact this
  rw [headS, e2, if_neg (by simp only; omega)]
theorem first_put (e : Elem) (ht : tagOk e = true) (more : List UInt8) : (clsB (putS e ++ more) : Int) = e.cls ∧ (tagB (putS e ++ more) : Int) = e.tag ∧ consB (putS e ++ more) = e.cons := by
  have h0 : (putS e ++ more).headD 0 = firstS e := by rw [putS_eta]; rfl
  unfold clsB tagB consB
  rw [h0, (firstS_mod e ht).2]
  simp only [tagOk, decide_eq_true_eq] at ht
  cases e.cons
  · simp; omega
  · simp; omega
theorem cont_put (e : Elem) (ht : tagOk e = true) (hs : sizeS e ≤ 65536) (more : List UInt8) : contB (putS e ++ more) = e.bytes ++ putSs e.kids ∧ restB (putS e ++ more) = more := by
  obtain ⟨h1, h2, h3⟩ := sizeS_sum e hs
  have hl := putS_length e hs
  have hh := head_put e ht hs more
  have hb : (putS e).length = 1 + (lenS (e.bytes.length + sumS e.kids)).length + (e.bytes.length + sumS e.kids) := by rw [hl, h1]
  unfold contB restB
  rw [hh]
  simp only
  rw [← hb, List.take_left, List.drop_left]
  refine ⟨?_, rfl⟩
  rw [putS_eta, show firstS e :: (lenS (e.bytes.length + sumS e.kids) ++ (e.bytes ++ putSs e.kids)) = (firstS e :: lenS (e.bytes.length + sumS e.kids)) ++ (e.bytes ++ putSs e.kids) by simp]
  rw [show 1 + (lenS (e.bytes.length + sumS e.kids)).length = (firstS e :: lenS (e.bytes.length + sumS e.kids)).length by simp; omega]
  exact List.drop_left

theorem putS_pos (e : Elem) : 2 ≤ (putS e).length := by
  rw [putS_eta]; simp only [List.length_cons, List.length_append]; have := (lenS_length (e.bytes.length + sumS e.kids)).2; omega

theorem readF_leaf {f w : Nat} {b : List UInt8} (h1 : (headS b).2.2 = 0) (h2 : w < 20) (h3 : (headS b).1 + (headS b).2.1 ≤ b.length) (hc : consB b = false) :
    readF (f + 1) b w = .ok (.mk (clsB b) (tagB b) false (contB b) [] []) (restB b) := by
  simp only [readF, if_neg (show ¬ (headS b).2.2 ≠ 0 by omega), if_neg (show ¬ w ≥ 20 by omega), if_neg (show ¬ b.length < (headS b).1 + (headS b).2.1 by omega), hc, if_true]
theorem readF_node {f w : Nat} {b : List UInt8} (h1 : (headS b).2.2 = 0) (h2 : w < 20) (h3 : (headS b).1 + (headS b).2.1 ≤ b.length) (hc : consB b = true) :
    readF (f + 1) b w = endK b (kidsF (fun c => readF f c (w + 1)) (contB b).length (contB b)) := by
  simp only [readF, if_neg (show ¬ (headS b).2.2 ≠ 0 by omega), if_neg (show ¬ w ≥ 20 by omega), if_neg (show ¬ b.length < (headS b).1 + (headS b).2.1 by omega), hc]; rfl

mutual
/-- What is written is read. -/
theorem read_put : ∀ (e : Elem) (w f : Nat) (more : List UInt8), allTag e = true → allForm e = true → deepS e w = false → sizeS e ≤ 65536 → (putS e).length < f → readF f (putS e ++ more) w = .ok (copyE e) more
  | .mk c t k b ks ext, w, 0, more, _, _, _, _, hf => by omega
  | .mk c t k b ks ext, w, f + 1, more, ht, hm, hd, hs, hf => by
    have htag := (allTag_eta ht).1
    simp only [allTag, Bool.and_eq_true] at ht
    simp only [allForm, Bool.and_eq_true] at hm
    have hdw := hd
    simp only [deepS, Bool.or_eq_false_iff, decide_eq_false_iff_not] at hd
    have hh := head_put _ htag hs more
    obtain ⟨f1, f2, f3⟩ := first_put _ htag more
    obtain ⟨g1, g2⟩ := cont_put _ htag hs more
    obtain ⟨s1, s2, s3⟩ := sizeS_sum _ hs
    have hl := putS_length _ hs
    have hform := hm.1
    have hw : w < 20 := by omega
    have hne : (headS (putS (.mk c t k b ks ext) ++ more)).2.2 = 0 := by rw [hh]
    have hlen : (headS (putS (.mk c t k b ks ext) ++ more)).1 + (headS (putS (.mk c t k b ks ext) ++ more)).2.1 ≤ (putS (.mk c t k b ks ext) ++ more).length := by
      rw [hh, List.length_append, hl, s1]; simp only; omega
    cases k with
    | false =>
      have hk0 : ks = [] := by
        have : ks.length = 0 := by simpa [formOk, Elem.cons, Elem.kids] using hform
        exact List.eq_nil_of_length_eq_zero this
      rw [readF_leaf hne hw hlen (f3.trans rfl), f1, f2, g1, g2]
      subst hk0
      simp [copyE, copyEs, putSs, Elem.cls, Elem.tag, Elem.bytes, Elem.kids]
    | true =>
      have hb0 : b = [] := by
        have : decide (b = []) = true := hform
        exact of_decide_eq_true this
      rw [readF_node hne hw hlen (f3.trans rfl), g1]
      subst hb0
      have hpl := putSs_length ks s2
      have hk := reads_put ks (w + 1) f (putSs ks).length ht.2 hm.2 (by have := hd.2; push_cast; exact this) s2 (by
        rw [hl, s1] at hf
        simp only [Elem.bytes, Elem.kids, List.length_nil] at hf
        omega) (by omega)
      simp only [Elem.bytes, Elem.kids, List.nil_append]
      rw [hk, endK, f1, f2, g2]
      simp only [copyE, Elem.cls, Elem.tag]
theorem reads_put : ∀ (ks : List Elem) (w f g : Nat), allTags ks = true → allForms ks = true → deepSs ks w = false → (∀ k ∈ ks, sizeS k ≤ 65536) → (putSs ks).length < f → (putSs ks).length ≤ g →
      kidsF (fun c => readF f c w) g (putSs ks) = .ok (copyEs ks)
  | [], w, f, g, _, _, _, _, _, _ => by cases g <;> simp [kidsF, putSs, copyEs]
  | k :: ks, w, f, g, ht, hm, hd, hs, hf, hg => by
    simp only [allTags, Bool.and_eq_true] at ht
    simp only [allForms, Bool.and_eq_true] at hm
    simp only [deepSs, Bool.or_eq_false_iff] at hd
    simp only [putSs, List.length_append] at hf hg
    have hp := putS_pos k
    obtain ⟨g, rfl⟩ : ∃ g', g = g' + 1 := ⟨g - 1, by omega⟩
    have hne : ¬ putSs (k :: ks) = [] := by
      intro h; have := congrArg List.length h; simp only [putSs, List.length_append, List.length_nil] at this; omega
    simp only [kidsF, if_neg hne]
    simp only [putSs]
    rw [read_put k w f (putSs ks) ht.1 hm.1 hd.1 (hs k (by simp)) (by omega)]
    simp only
    rw [reads_put ks w f g ht.2 hm.2 hd.2 (fun x hx => hs x (by simp [hx])) (by omega) (by omega)]
    simp only [copyEs]
end

theorem write_ok2 {e : Elem} (h : (writeS e).2 = 0) : (writeS e).1 = putS e ∧ allTag e = true ∧ allForm e = true ∧ deepS e 0 = false ∧ sizeS e ≤ 65536 := by
  obtain ⟨h1, h2, h3, h4, h5⟩ := write_ok h
  exact ⟨h1, allTag_of e 0 h2 h4, allForm_of e 0 h3 h4, h4, h5⟩
theorem readS_put {e : Elem} (h : (writeS e).2 = 0) : readS (putS e) = (copyE e, 0) := by
  obtain ⟨h1, h2, h3, h4, h5⟩ := write_ok2 h
  have := read_put e 0 ((putS e).length + 1) [] h2 h3 h4 h5 (by omega)
  rw [List.append_nil] at this
  unfold readS
  rw [this]; simp
theorem readS_more {e : Elem} (h : (writeS e).2 = 0) (more : List UInt8) (hm : more ≠ []) : readS (putS e ++ more) = (zE, 25) := by
  obtain ⟨h1, h2, h3, h4, h5⟩ := write_ok2 h
  have := read_put e 0 ((putS e ++ more).length + 1) more h2 h3 h4 h5 (by rw [List.length_append]; omega)
  unfold readS
  rw [this]; simp [hm]
theorem readS_cut {e : Elem} (h : (writeS e).2 = 0) (k : Nat) (hk : k < (putS e).length) : readS ((putS e).take k) = (zE, 20) := by
  obtain ⟨h1, h2, h3, h4, h5⟩ := write_ok2 h
  obtain ⟨ht, _⟩ := allTag_eta h2
  have hf := frame_put e ht h5 [] k
  rw [List.append_nil, frameS, Prod.mk.injEq] at hf
  have hl : ((putS e).take k).length = k := by rw [List.length_take]; omega
  unfold readS
  have : readF (((putS e).take k).length + 1) ((putS e).take k) 0 = .err 20 := by
    simp only [readF]
    by_cases hlt : k < 1 + (lenS (e.bytes.length + sumS e.kids)).length
    · rw [if_pos hlt] at hf
      rw [if_pos (by rw [hf.2]; decide), hf.2]
    · rw [if_neg hlt] at hf
      rw [if_neg (by rw [hf.2]; simp), if_neg (by omega), if_pos (by rw [hf.1, hl]; exact hk)]
  rw [this]
end Go.Proofs.Ytmlllckecalaaaa.Eng

namespace Go.Proofs.Ytmlllckecalaaaa.Eng
open Go Go.Proofs.Try

theorem write_err {e : Elem} (h : (writeS e).2 ≠ 0) : (writeS e).1 = [] := by
  unfold writeS at h ⊢
  split
  · rfl
  split
  · rfl
  split
  · rfl
  split
  · rfl
  · rename_i h1 h2 h3 h4
    rw [if_neg h1, if_neg h2, if_neg h3, if_neg h4] at h
    exact absurd rfl h
theorem frame_whole {e : Elem} (h : (writeS e).2 = 0) : frameS (putS e) = ((putS e).length, 0) := by
  obtain ⟨h1, h2, h3, h4, h5⟩ := write_ok2 h
  have hf := frame_put e (allTag_eta h2).1 h5 [] (putS e).length
  obtain ⟨s1, _, _⟩ := sizeS_sum e h5
  rw [List.append_nil, take_all, if_neg (by rw [putS_length e h5, s1]; omega)] at hf
  exact hf
theorem same_copy (e : Elem) : sameS (copyE e) e = true := same_of _ _ (copy_copy e)

theorem c8 (e : Elem) (hok : okE e) : Pure prog 8 [.agg (encE e)] (.bool true) := by
  refine Pure.of (fun _ _ => by simp only [nm]) fun S => acalls_of_vc low8 (by simp) ?_
  have hx := (Ext.refl S).push
  simp -implicitDefEqProofs only [B8, encE_length, encE_take5, vc_region, vc_quiet, vcD_nil, vcD_val2, vcDO_val, vcDO_asks, vcD_eff, vcD_guard2, vcDG_TT, vcDG_FF, vcDG_TF, vcDG_FT, vcDG_und, vcDG_Tdec, vcDG_Fdec, vcDEff, saysAll, pendAll, pendNext, addPend, Says, vc_bad, vc_seq, vc_ret, vc_skip, vc_block, vc_exit, vcGrps_nil, vcGrps_cons, vcGrps_guard2, vcG2_bool, vcG2_und, vcGB_TT, vcGB_FF, vcGB_TF, vcGB_FT, vcGB_Tdec, vcGB_Fdec, vcOps_nil, vcOps_cons, vcOut, KCall_ret, KCall_pan, skipF_nil, skipF_cons, Qseq_normal, Qseq_ret, Qseq_exit, Qseq_pan, Qblk_normal, Qblk_exit, Qblk_ret, Qblk_pan, Qpan_eq, Qcut_normal, Qcut_exit, Qcut_ret, Qcut_pan, Qloop_normal, Qloop_exit, Qloop_ret, Qloop_pan,
    stepOp, ev, upd_apply, putF, cellsOf, deref, faddrV, mk, abin, abinI, abinS, ibits, aeqb, aun, fldV, idxOf, elems, isPtr, putRef, splice, fillA, rowsA, minV, peqV, elemsA, rowBytes, strOf, Store.get_push, Store.get_set, Store.n_push, Store.n_set,
    Option.map_some, Option.map_none, reduceIte, Nat.reduceEqDiff, Nat.reduceAdd, Nat.reduceLeDiff, Nat.reduceLT, Nat.zero_add, Nat.add_zero, Nat.add_assoc, Nat.add_left_cancel_iff, Nat.left_eq_add, Nat.add_eq_left, Nat.lt_irrefl, Nat.le_refl,
    List.drop_zero, List.drop_succ_cons, List.take_succ_cons, List.take_zero, List.headD_cons, List.length_cons, List.length_nil, List.getElem?_cons_zero, List.getElem?_cons_succ, List.set_cons_zero, List.set_cons_succ, List.map_cons, List.map_nil,
    Bool.not_true, Bool.not_false, Bool.false_eq_true, Bool.true_eq_false, Bool.not_eq_true', Bool.not_eq_false', eq_self, false_imp_iff, true_imp_iff, and_true, true_and, and_false, false_and, or_true, true_or, initFr, fr0_at, Qend, resL, resV1, pack,
    decide_eq_true_eq, decide_eq_false_iff_not, Int.toNat_natCast, Option.some.injEq, exists_eq_left', vc_cond2, vcC2_bool, vcCB_T, vcCB_F, vcCB_dec, decide_true, decide_false]
  refine (c12 e).use ?_
  simp -implicitDefEqProofs only [encE_length, encE_take5, vc_region, vc_quiet, vcD_nil, vcD_val2, vcDO_val, vcDO_asks, vcD_eff, vcD_guard2, vcDG_TT, vcDG_FF, vcDG_TF, vcDG_FT, vcDG_und, vcDG_Tdec, vcDG_Fdec, vcDEff, saysAll, pendAll, pendNext, addPend, Says, vc_bad, vc_seq, vc_ret, vc_skip, vc_block, vc_exit, vcGrps_nil, vcGrps_cons, vcGrps_guard2, vcG2_bool, vcG2_und, vcGB_TT, vcGB_FF, vcGB_TF, vcGB_FT, vcGB_Tdec, vcGB_Fdec, vcOps_nil, vcOps_cons, vcOut, KCall_ret, KCall_pan, skipF_nil, skipF_cons, Qseq_normal, Qseq_ret, Qseq_exit, Qseq_pan, Qblk_normal, Qblk_exit, Qblk_ret, Qblk_pan, Qpan_eq, Qcut_normal, Qcut_exit, Qcut_ret, Qcut_pan, Qloop_normal, Qloop_exit, Qloop_ret, Qloop_pan,
    stepOp, ev, upd_apply, putF, cellsOf, deref, faddrV, mk, abin, abinI, abinS, ibits, aeqb, aun, fldV, idxOf, elems, isPtr, putRef, splice, fillA, rowsA, minV, peqV, elemsA, rowBytes, strOf, Store.get_push, Store.get_set, Store.n_push, Store.n_set,
    Option.map_some, Option.map_none, reduceIte, Nat.reduceEqDiff, Nat.reduceAdd, Nat.reduceLeDiff, Nat.reduceLT, Nat.zero_add, Nat.add_zero, Nat.add_assoc, Nat.add_left_cancel_iff, Nat.left_eq_add, Nat.add_eq_left, Nat.lt_irrefl, Nat.le_refl,
    List.drop_zero, List.drop_succ_cons, List.take_succ_cons, List.take_zero, List.headD_cons, List.length_cons, List.length_nil, List.getElem?_cons_zero, List.getElem?_cons_succ, List.set_cons_zero, List.set_cons_succ, List.map_cons, List.map_nil,
    Bool.not_true, Bool.not_false, Bool.false_eq_true, Bool.true_eq_false, Bool.not_eq_true', Bool.not_eq_false', eq_self, false_imp_iff, true_imp_iff, and_true, true_and, and_false, false_and, or_true, true_or, initFr, fr0_at, Qend, resL, resV1, pack,
    decide_eq_true_eq, decide_eq_false_iff_not, Int.toNat_natCast, Option.some.injEq, exists_eq_left', vc_cond2, vcC2_bool, vcCB_T, vcCB_F, vcCB_dec, decide_true, decide_false]
  refine ⟨fun _ => ?_, fun _ => ?_⟩
  · refine c13.use ?_
    simp -implicitDefEqProofs only [vc_region, vc_quiet, vcD_nil, vcD_val2, vcDO_val, vcDO_asks, vcD_eff, vcD_guard2, vcDG_TT, vcDG_FF, vcDG_TF, vcDG_FT, vcDG_und, vcDG_Tdec, vcDG_Fdec, vcDEff, saysAll, pendAll, pendNext, addPend, Says, vc_bad, vc_seq, vc_ret, vc_skip, vc_block, vc_exit, vcGrps_nil, vcGrps_cons, vcGrps_guard2, vcG2_bool, vcG2_und, vcGB_TT, vcGB_FF, vcGB_TF, vcGB_FT, vcGB_Tdec, vcGB_Fdec, vcOps_nil, vcOps_cons, vcOut, KCall_ret, KCall_pan, skipF_nil, skipF_cons, Qseq_normal, Qseq_ret, Qseq_exit, Qseq_pan, Qblk_normal, Qblk_exit, Qblk_ret, Qblk_pan, Qpan_eq, Qcut_normal, Qcut_exit, Qcut_ret, Qcut_pan, Qloop_normal, Qloop_exit, Qloop_ret, Qloop_pan,
    stepOp, ev, upd_apply, putF, cellsOf, deref, faddrV, mk, abin, abinI, abinS, ibits, aeqb, aun, fldV, idxOf, elems, isPtr, putRef, splice, fillA, rowsA, minV, peqV, elemsA, rowBytes, strOf, Store.get_push, Store.get_set, Store.n_push, Store.n_set,
    Option.map_some, Option.map_none, reduceIte, Nat.reduceEqDiff, Nat.reduceAdd, Nat.reduceLeDiff, Nat.reduceLT, Nat.zero_add, Nat.add_zero, Nat.add_assoc, Nat.add_left_cancel_iff, Nat.left_eq_add, Nat.add_eq_left, Nat.lt_irrefl, Nat.le_refl,
    List.drop_zero, List.drop_succ_cons, List.take_succ_cons, List.take_zero, List.headD_cons, List.length_cons, List.length_nil, List.getElem?_cons_zero, List.getElem?_cons_succ, List.set_cons_zero, List.set_cons_succ, List.map_cons, List.map_nil,
    Bool.not_true, Bool.not_false, Bool.false_eq_true, Bool.true_eq_false, Bool.not_eq_true', Bool.not_eq_false', eq_self, false_imp_iff, true_imp_iff, and_true, true_and, and_false, false_and, or_true, true_or, initFr, fr0_at, Qend, resL, resV1, pack,
    decide_eq_true_eq, decide_eq_false_iff_not, Int.toNat_natCast, Option.some.injEq, exists_eq_left', vc_cond2, vcC2_bool, vcCB_T, vcCB_F, vcCB_dec, decide_true, decide_false]
    exact hx _
  refine (c15 e hok).use ?_
  by_cases hw : (writeS e).2 = 0
  rotate_left
  · have hw' : ¬ (writeS e).2 = 0 := hw
    rw [write_err hw]
    simp -implicitDefEqProofs only [hw', ne_eq, not_false_eq_true, vc_region, vc_quiet, vcD_nil, vcD_val2, vcDO_val, vcDO_asks, vcD_eff, vcD_guard2, vcDG_TT, vcDG_FF, vcDG_TF, vcDG_FT, vcDG_und, vcDG_Tdec, vcDG_Fdec, vcDEff, saysAll, pendAll, pendNext, addPend, Says, vc_bad, vc_seq, vc_ret, vc_skip, vc_block, vc_exit, vcGrps_nil, vcGrps_cons, vcGrps_guard2, vcG2_bool, vcG2_und, vcGB_TT, vcGB_FF, vcGB_TF, vcGB_FT, vcGB_Tdec, vcGB_Fdec, vcOps_nil, vcOps_cons, vcOut, KCall_ret, KCall_pan, skipF_nil, skipF_cons, Qseq_normal, Qseq_ret, Qseq_exit, Qseq_pan, Qblk_normal, Qblk_exit, Qblk_ret, Qblk_pan, Qpan_eq, Qcut_normal, Qcut_exit, Qcut_ret, Qcut_pan, Qloop_normal, Qloop_exit, Qloop_ret, Qloop_pan,
    stepOp, ev, upd_apply, putF, cellsOf, deref, faddrV, mk, abin, abinI, abinS, ibits, aeqb, aun, fldV, idxOf, elems, isPtr, putRef, splice, fillA, rowsA, minV, peqV, elemsA, rowBytes, strOf, Store.get_push, Store.get_set, Store.n_push, Store.n_set,
    Option.map_some, Option.map_none, reduceIte, Nat.reduceEqDiff, Nat.reduceAdd, Nat.reduceLeDiff, Nat.reduceLT, Nat.zero_add, Nat.add_zero, Nat.add_assoc, Nat.add_left_cancel_iff, Nat.left_eq_add, Nat.add_eq_left, Nat.lt_irrefl, Nat.le_refl,
    List.drop_zero, List.drop_succ_cons, List.take_succ_cons, List.take_zero, List.headD_cons, List.length_cons, List.length_nil, List.getElem?_cons_zero, List.getElem?_cons_succ, List.set_cons_zero, List.set_cons_succ, List.map_cons, List.map_nil,
    Bool.not_true, Bool.not_false, Bool.false_eq_true, Bool.true_eq_false, Bool.not_eq_true', Bool.not_eq_false', eq_self, false_imp_iff, true_imp_iff, and_true, true_and, and_false, false_and, or_true, true_or, initFr, fr0_at, Qend, resL, resV1, pack,
    decide_eq_true_eq, decide_eq_false_iff_not, Int.toNat_natCast, Option.some.injEq, exists_eq_left', vc_cond2, vcC2_bool, vcCB_T, vcCB_F, vcCB_dec, decide_true, decide_false]
    refine c13.use ?_
    simp -implicitDefEqProofs only [vc_region, vc_quiet, vcD_nil, vcD_val2, vcDO_val, vcDO_asks, vcD_eff, vcD_guard2, vcDG_TT, vcDG_FF, vcDG_TF, vcDG_FT, vcDG_und, vcDG_Tdec, vcDG_Fdec, vcDEff, saysAll, pendAll, pendNext, addPend, Says, vc_bad, vc_seq, vc_ret, vc_skip, vc_block, vc_exit, vcGrps_nil, vcGrps_cons, vcGrps_guard2, vcG2_bool, vcG2_und, vcGB_TT, vcGB_FF, vcGB_TF, vcGB_FT, vcGB_Tdec, vcGB_Fdec, vcOps_nil, vcOps_cons, vcOut, KCall_ret, KCall_pan, skipF_nil, skipF_cons, Qseq_normal, Qseq_ret, Qseq_exit, Qseq_pan, Qblk_normal, Qblk_exit, Qblk_ret, Qblk_pan, Qpan_eq, Qcut_normal, Qcut_exit, Qcut_ret, Qcut_pan, Qloop_normal, Qloop_exit, Qloop_ret, Qloop_pan,
    stepOp, ev, upd_apply, putF, cellsOf, deref, faddrV, mk, abin, abinI, abinS, ibits, aeqb, aun, fldV, idxOf, elems, isPtr, putRef, splice, fillA, rowsA, minV, peqV, elemsA, rowBytes, strOf, Store.get_push, Store.get_set, Store.n_push, Store.n_set,
    Option.map_some, Option.map_none, reduceIte, Nat.reduceEqDiff, Nat.reduceAdd, Nat.reduceLeDiff, Nat.reduceLT, Nat.zero_add, Nat.add_zero, Nat.add_assoc, Nat.add_left_cancel_iff, Nat.left_eq_add, Nat.add_eq_left, Nat.lt_irrefl, Nat.le_refl,
    List.drop_zero, List.drop_succ_cons, List.take_succ_cons, List.take_zero, List.headD_cons, List.length_cons, List.length_nil, List.getElem?_cons_zero, List.getElem?_cons_succ, List.set_cons_zero, List.set_cons_succ, List.map_cons, List.map_nil,
    Bool.not_true, Bool.not_false, Bool.false_eq_true, Bool.true_eq_false, Bool.not_eq_true', Bool.not_eq_false', eq_self, false_imp_iff, true_imp_iff, and_true, true_and, and_false, false_and, or_true, true_or, initFr, fr0_at, Qend, resL, resV1, pack,
    decide_eq_true_eq, decide_eq_false_iff_not, Int.toNat_natCast, Option.some.injEq, exists_eq_left', vc_cond2, vcC2_bool, vcCB_T, vcCB_F, vcCB_dec, decide_true, decide_false]
    exact hx _
  rw [hw, (write_ok2 hw).1]
  simp -implicitDefEqProofs only [ne_eq, not_true, not_false_eq_true, vc_region, vc_quiet, vcD_nil, vcD_val2, vcDO_val, vcDO_asks, vcD_eff, vcD_guard2, vcDG_TT, vcDG_FF, vcDG_TF, vcDG_FT, vcDG_und, vcDG_Tdec, vcDG_Fdec, vcDEff, saysAll, pendAll, pendNext, addPend, Says, vc_bad, vc_seq, vc_ret, vc_skip, vc_block, vc_exit, vcGrps_nil, vcGrps_cons, vcGrps_guard2, vcG2_bool, vcG2_und, vcGB_TT, vcGB_FF, vcGB_TF, vcGB_FT, vcGB_Tdec, vcGB_Fdec, vcOps_nil, vcOps_cons, vcOut, KCall_ret, KCall_pan, skipF_nil, skipF_cons, Qseq_normal, Qseq_ret, Qseq_exit, Qseq_pan, Qblk_normal, Qblk_exit, Qblk_ret, Qblk_pan, Qpan_eq, Qcut_normal, Qcut_exit, Qcut_ret, Qcut_pan, Qloop_normal, Qloop_exit, Qloop_ret, Qloop_pan,
    stepOp, ev, upd_apply, putF, cellsOf, deref, faddrV, mk, abin, abinI, abinS, ibits, aeqb, aun, fldV, idxOf, elems, isPtr, putRef, splice, fillA, rowsA, minV, peqV, elemsA, rowBytes, strOf, Store.get_push, Store.get_set, Store.n_push, Store.n_set,
    Option.map_some, Option.map_none, reduceIte, Nat.reduceEqDiff, Nat.reduceAdd, Nat.reduceLeDiff, Nat.reduceLT, Nat.zero_add, Nat.add_zero, Nat.add_assoc, Nat.add_left_cancel_iff, Nat.left_eq_add, Nat.add_eq_left, Nat.lt_irrefl, Nat.le_refl,
    List.drop_zero, List.drop_succ_cons, List.take_succ_cons, List.take_zero, List.headD_cons, List.length_cons, List.length_nil, List.getElem?_cons_zero, List.getElem?_cons_succ, List.set_cons_zero, List.set_cons_succ, List.map_cons, List.map_nil,
    Bool.not_true, Bool.not_false, Bool.false_eq_true, Bool.true_eq_false, Bool.not_eq_true', Bool.not_eq_false', eq_self, false_imp_iff, true_imp_iff, and_true, true_and, and_false, false_and, or_true, true_or, initFr, fr0_at, Qend, resL, resV1, pack,
    decide_eq_true_eq, decide_eq_false_iff_not, Int.toNat_natCast, Option.some.injEq, exists_eq_left', vc_cond2, vcC2_bool, vcCB_T, vcCB_F, vcCB_dec, decide_true, decide_false]
  refine (c40 (putS e)).use ?_
  rw [readS_put hw]
  simp -implicitDefEqProofs only [encE_length, encE_take5, splice_encE, vc_region, vc_quiet, vcD_nil, vcD_val2, vcDO_val, vcDO_asks, vcD_eff, vcD_guard2, vcDG_TT, vcDG_FF, vcDG_TF, vcDG_FT, vcDG_und, vcDG_Tdec, vcDG_Fdec, vcDEff, saysAll, pendAll, pendNext, addPend, Says, vc_bad, vc_seq, vc_ret, vc_skip, vc_block, vc_exit, vcGrps_nil, vcGrps_cons, vcGrps_guard2, vcG2_bool, vcG2_und, vcGB_TT, vcGB_FF, vcGB_TF, vcGB_FT, vcGB_Tdec, vcGB_Fdec, vcOps_nil, vcOps_cons, vcOut, KCall_ret, KCall_pan, skipF_nil, skipF_cons, Qseq_normal, Qseq_ret, Qseq_exit, Qseq_pan, Qblk_normal, Qblk_exit, Qblk_ret, Qblk_pan, Qpan_eq, Qcut_normal, Qcut_exit, Qcut_ret, Qcut_pan, Qloop_normal, Qloop_exit, Qloop_ret, Qloop_pan,
    stepOp, ev, upd_apply, putF, cellsOf, deref, faddrV, mk, abin, abinI, abinS, ibits, aeqb, aun, fldV, idxOf, elems, isPtr, putRef, splice, fillA, rowsA, minV, peqV, elemsA, rowBytes, strOf, Store.get_push, Store.get_set, Store.n_push, Store.n_set,
    Option.map_some, Option.map_none, reduceIte, Nat.reduceEqDiff, Nat.reduceAdd, Nat.reduceLeDiff, Nat.reduceLT, Nat.zero_add, Nat.add_zero, Nat.add_assoc, Nat.add_left_cancel_iff, Nat.left_eq_add, Nat.add_eq_left, Nat.lt_irrefl, Nat.le_refl,
    List.drop_zero, List.drop_succ_cons, List.take_succ_cons, List.take_zero, List.headD_cons, List.length_cons, List.length_nil, List.getElem?_cons_zero, List.getElem?_cons_succ, List.set_cons_zero, List.set_cons_succ, List.map_cons, List.map_nil,
    Bool.not_true, Bool.not_false, Bool.false_eq_true, Bool.true_eq_false, Bool.not_eq_true', Bool.not_eq_false', eq_self, false_imp_iff, true_imp_iff, and_true, true_and, and_false, false_and, or_true, true_or, initFr, fr0_at, Qend, resL, resV1, pack,
    decide_eq_true_eq, decide_eq_false_iff_not, Int.toNat_natCast, Option.some.injEq, exists_eq_left', vc_cond2, vcC2_bool, vcCB_T, vcCB_F, vcCB_dec, decide_true, decide_false]
  refine (c19 (putS e)).use ?_
  rw [frame_whole hw]
  simp -implicitDefEqProofs only [encE_length, encE_take5, splice_encE, vc_region, vc_quiet, vcD_nil, vcD_val2, vcDO_val, vcDO_asks, vcD_eff, vcD_guard2, vcDG_TT, vcDG_FF, vcDG_TF, vcDG_FT, vcDG_und, vcDG_Tdec, vcDG_Fdec, vcDEff, saysAll, pendAll, pendNext, addPend, Says, vc_bad, vc_seq, vc_ret, vc_skip, vc_block, vc_exit, vcGrps_nil, vcGrps_cons, vcGrps_guard2, vcG2_bool, vcG2_und, vcGB_TT, vcGB_FF, vcGB_TF, vcGB_FT, vcGB_Tdec, vcGB_Fdec, vcOps_nil, vcOps_cons, vcOut, KCall_ret, KCall_pan, skipF_nil, skipF_cons, Qseq_normal, Qseq_ret, Qseq_exit, Qseq_pan, Qblk_normal, Qblk_exit, Qblk_ret, Qblk_pan, Qpan_eq, Qcut_normal, Qcut_exit, Qcut_ret, Qcut_pan, Qloop_normal, Qloop_exit, Qloop_ret, Qloop_pan,
    stepOp, ev, upd_apply, putF, cellsOf, deref, faddrV, mk, abin, abinI, abinS, ibits, aeqb, aun, fldV, idxOf, elems, isPtr, putRef, splice, fillA, rowsA, minV, peqV, elemsA, rowBytes, strOf, Store.get_push, Store.get_set, Store.n_push, Store.n_set,
    Option.map_some, Option.map_none, reduceIte, Nat.reduceEqDiff, Nat.reduceAdd, Nat.reduceLeDiff, Nat.reduceLT, Nat.zero_add, Nat.add_zero, Nat.add_assoc, Nat.add_left_cancel_iff, Nat.left_eq_add, Nat.add_eq_left, Nat.lt_irrefl, Nat.le_refl,
    List.drop_zero, List.drop_succ_cons, List.take_succ_cons, List.take_zero, List.headD_cons, List.length_cons, List.length_nil, List.getElem?_cons_zero, List.getElem?_cons_succ, List.set_cons_zero, List.set_cons_succ, List.map_cons, List.map_nil,
    Bool.not_true, Bool.not_false, Bool.false_eq_true, Bool.true_eq_false, Bool.not_eq_true', Bool.not_eq_false', eq_self, false_imp_iff, true_imp_iff, and_true, true_and, and_false, false_and, or_true, true_or, initFr, fr0_at, Qend, resL, resV1, pack,
    decide_eq_true_eq, decide_eq_false_iff_not, Int.toNat_natCast, Option.some.injEq, exists_eq_left', vc_cond2, vcC2_bool, vcCB_T, vcCB_F, vcCB_dec, decide_true, decide_false]
  refine c13.use ?_
  have hc0 : ((0 : Nat) : Int) = 0 := rfl
  simp -implicitDefEqProofs only [encE_length, encE_take5, splice_encE, hc0, vc_region, vc_quiet, vcD_nil, vcD_val2, vcDO_val, vcDO_asks, vcD_eff, vcD_guard2, vcDG_TT, vcDG_FF, vcDG_TF, vcDG_FT, vcDG_und, vcDG_Tdec, vcDG_Fdec, vcDEff, saysAll, pendAll, pendNext, addPend, Says, vc_bad, vc_seq, vc_ret, vc_skip, vc_block, vc_exit, vcGrps_nil, vcGrps_cons, vcGrps_guard2, vcG2_bool, vcG2_und, vcGB_TT, vcGB_FF, vcGB_TF, vcGB_FT, vcGB_Tdec, vcGB_Fdec, vcOps_nil, vcOps_cons, vcOut, KCall_ret, KCall_pan, skipF_nil, skipF_cons, Qseq_normal, Qseq_ret, Qseq_exit, Qseq_pan, Qblk_normal, Qblk_exit, Qblk_ret, Qblk_pan, Qpan_eq, Qcut_normal, Qcut_exit, Qcut_ret, Qcut_pan, Qloop_normal, Qloop_exit, Qloop_ret, Qloop_pan,
    stepOp, ev, upd_apply, putF, cellsOf, deref, faddrV, mk, abin, abinI, abinS, ibits, aeqb, aun, fldV, idxOf, elems, isPtr, putRef, splice, fillA, rowsA, minV, peqV, elemsA, rowBytes, strOf, Store.get_push, Store.get_set, Store.n_push, Store.n_set,
    Option.map_some, Option.map_none, reduceIte, Nat.reduceEqDiff, Nat.reduceAdd, Nat.reduceLeDiff, Nat.reduceLT, Nat.zero_add, Nat.add_zero, Nat.add_assoc, Nat.add_left_cancel_iff, Nat.left_eq_add, Nat.add_eq_left, Nat.lt_irrefl, Nat.le_refl,
    List.drop_zero, List.drop_succ_cons, List.take_succ_cons, List.take_zero, List.headD_cons, List.length_cons, List.length_nil, List.getElem?_cons_zero, List.getElem?_cons_succ, List.set_cons_zero, List.set_cons_succ, List.map_cons, List.map_nil,
    Bool.not_true, Bool.not_false, Bool.false_eq_true, Bool.true_eq_false, Bool.not_eq_true', Bool.not_eq_false', eq_self, false_imp_iff, true_imp_iff, and_true, true_and, and_false, false_and, or_true, true_or, initFr, fr0_at, Qend, resL, resV1, pack,
    decide_eq_true_eq, decide_eq_false_iff_not, Int.toNat_natCast, Option.some.injEq, exists_eq_left', vc_cond2, vcC2_bool, vcCB_T, vcCB_F, vcCB_dec, decide_true, decide_false]
  intro _
  refine (c17 _ _).use ?_
  rw [same_copy]
  simp -implicitDefEqProofs only [encE_length, encE_take5, splice_encE, vc_region, vc_quiet, vcD_nil, vcD_val2, vcDO_val, vcDO_asks, vcD_eff, vcD_guard2, vcDG_TT, vcDG_FF, vcDG_TF, vcDG_FT, vcDG_und, vcDG_Tdec, vcDG_Fdec, vcDEff, saysAll, pendAll, pendNext, addPend, Says, vc_bad, vc_seq, vc_ret, vc_skip, vc_block, vc_exit, vcGrps_nil, vcGrps_cons, vcGrps_guard2, vcG2_bool, vcG2_und, vcGB_TT, vcGB_FF, vcGB_TF, vcGB_FT, vcGB_Tdec, vcGB_Fdec, vcOps_nil, vcOps_cons, vcOut, KCall_ret, KCall_pan, skipF_nil, skipF_cons, Qseq_normal, Qseq_ret, Qseq_exit, Qseq_pan, Qblk_normal, Qblk_exit, Qblk_ret, Qblk_pan, Qpan_eq, Qcut_normal, Qcut_exit, Qcut_ret, Qcut_pan, Qloop_normal, Qloop_exit, Qloop_ret, Qloop_pan,
    stepOp, ev, upd_apply, putF, cellsOf, deref, faddrV, mk, abin, abinI, abinS, ibits, aeqb, aun, fldV, idxOf, elems, isPtr, putRef, splice, fillA, rowsA, minV, peqV, elemsA, rowBytes, strOf, Store.get_push, Store.get_set, Store.n_push, Store.n_set,
    Option.map_some, Option.map_none, reduceIte, Nat.reduceEqDiff, Nat.reduceAdd, Nat.reduceLeDiff, Nat.reduceLT, Nat.zero_add, Nat.add_zero, Nat.add_assoc, Nat.add_left_cancel_iff, Nat.left_eq_add, Nat.add_eq_left, Nat.lt_irrefl, Nat.le_refl,
    List.drop_zero, List.drop_succ_cons, List.take_succ_cons, List.take_zero, List.headD_cons, List.length_cons, List.length_nil, List.getElem?_cons_zero, List.getElem?_cons_succ, List.set_cons_zero, List.set_cons_succ, List.map_cons, List.map_nil,
    Bool.not_true, Bool.not_false, Bool.false_eq_true, Bool.true_eq_false, Bool.not_eq_true', Bool.not_eq_false', eq_self, false_imp_iff, true_imp_iff, and_true, true_and, and_false, false_and, or_true, true_or, initFr, fr0_at, Qend, resL, resV1, pack,
    decide_eq_true_eq, decide_eq_false_iff_not, Int.toNat_natCast, Option.some.injEq, exists_eq_left', vc_cond2, vcC2_bool, vcCB_T, vcCB_F, vcCB_dec, decide_true, decide_false]
  exact ((hx _).push _).set _ _ (by omega)

theorem tmod_mod (k : Int) (n : Nat) (hn : 0 < n) : ∃ j : Nat, j < n ∧ (k.tmod n < 0 → k.tmod n + n = j) ∧ (¬ k.tmod n < 0 → k.tmod n = j) := by
  have h1 : k.tmod n < n := Int.tmod_lt_of_pos k (by omega)
  have h2 : -(n : Int) < k.tmod n := by
    have := Int.neg_tmod k n
    have h3 : (-k).tmod n < n := Int.tmod_lt_of_pos (-k) (by omega)
    omega
  by_cases h : k.tmod n < 0
  · exact ⟨(k.tmod n + n).toNat, by omega, fun _ => by omega, fun h' => absurd h h'⟩
  · exact ⟨(k.tmod n).toNat, by omega, fun h' => absurd h' h, fun _ => by omega⟩

set_option maxRecDepth 10000 in
theorem c10 (e : Elem) (k : Int) (more : List UInt8) (hok : okE e) (hk : i64ok k) : Pure prog 10 [.agg (encE e), .int .i64 k, .str more] (.bool true) := by
  refine Pure.of (fun _ _ => by simp only [nm]) fun S => acalls_of_vc low10 (by simp) ?_
  have hx := (Ext.refl S).push
  simp -implicitDefEqProofs only [B10, encE_length, encE_take5, vc_region, vc_quiet, vcD_nil, vcD_val2, vcDO_val, vcDO_asks, vcD_eff, vcD_guard2, vcDG_TT, vcDG_FF, vcDG_TF, vcDG_FT, vcDG_und, vcDG_Tdec, vcDG_Fdec, vcDEff, saysAll, pendAll, pendNext, addPend, Says, vc_bad, vc_seq, vc_ret, vc_skip, vc_block, vc_exit, vcGrps_nil, vcGrps_cons, vcGrps_guard2, vcG2_bool, vcG2_und, vcGB_TT, vcGB_FF, vcGB_TF, vcGB_FT, vcGB_Tdec, vcGB_Fdec, vcOps_nil, vcOps_cons, vcOut, KCall_ret, KCall_pan, skipF_nil, skipF_cons, Qseq_normal, Qseq_ret, Qseq_exit, Qseq_pan, Qblk_normal, Qblk_exit, Qblk_ret, Qblk_pan, Qpan_eq, Qcut_normal, Qcut_exit, Qcut_ret, Qcut_pan, Qloop_normal, Qloop_exit, Qloop_ret, Qloop_pan,
    stepOp, ev, upd_apply, putF, cellsOf, deref, faddrV, mk, abin, abinI, abinS, ibits, aeqb, aun, fldV, idxOf, elems, isPtr, putRef, splice, fillA, rowsA, minV, peqV, elemsA, rowBytes, strOf, Store.get_push, Store.get_set, Store.n_push, Store.n_set,
    Option.map_some, Option.map_none, reduceIte, Nat.reduceEqDiff, Nat.reduceAdd, Nat.reduceLeDiff, Nat.reduceLT, Nat.zero_add, Nat.add_zero, Nat.add_assoc, Nat.add_left_cancel_iff, Nat.left_eq_add, Nat.add_eq_left, Nat.lt_irrefl, Nat.le_refl,
    List.drop_zero, List.drop_succ_cons, List.take_succ_cons, List.take_zero, List.headD_cons, List.length_cons, List.length_nil, List.getElem?_cons_zero, List.getElem?_cons_succ, List.set_cons_zero, List.set_cons_succ, List.map_cons, List.map_nil,
    Bool.not_true, Bool.not_false, Bool.false_eq_true, Bool.true_eq_false, Bool.not_eq_true', Bool.not_eq_false', eq_self, false_imp_iff, true_imp_iff, and_true, true_and, and_false, false_and, or_true, true_or, initFr, fr0_at, Qend, resL, resV1, pack,
    decide_eq_true_eq, decide_eq_false_iff_not, Int.toNat_natCast, Option.some.injEq, exists_eq_left', vc_cond2, vcC2_bool, vcCB_T, vcCB_F, vcCB_dec, decide_true, decide_false]
  refine (c12 e).use ?_
  simp -implicitDefEqProofs only [encE_length, encE_take5, vc_region, vc_quiet, vcD_nil, vcD_val2, vcDO_val, vcDO_asks, vcD_eff, vcD_guard2, vcDG_TT, vcDG_FF, vcDG_TF, vcDG_FT, vcDG_und, vcDG_Tdec, vcDG_Fdec, vcDEff, saysAll, pendAll, pendNext, addPend, Says, vc_bad, vc_seq, vc_ret, vc_skip, vc_block, vc_exit, vcGrps_nil, vcGrps_cons, vcGrps_guard2, vcG2_bool, vcG2_und, vcGB_TT, vcGB_FF, vcGB_TF, vcGB_FT, vcGB_Tdec, vcGB_Fdec, vcOps_nil, vcOps_cons, vcOut, KCall_ret, KCall_pan, skipF_nil, skipF_cons, Qseq_normal, Qseq_ret, Qseq_exit, Qseq_pan, Qblk_normal, Qblk_exit, Qblk_ret, Qblk_pan, Qpan_eq, Qcut_normal, Qcut_exit, Qcut_ret, Qcut_pan, Qloop_normal, Qloop_exit, Qloop_ret, Qloop_pan,
    stepOp, ev, upd_apply, putF, cellsOf, deref, faddrV, mk, abin, abinI, abinS, ibits, aeqb, aun, fldV, idxOf, elems, isPtr, putRef, splice, fillA, rowsA, minV, peqV, elemsA, rowBytes, strOf, Store.get_push, Store.get_set, Store.n_push, Store.n_set,
    Option.map_some, Option.map_none, reduceIte, Nat.reduceEqDiff, Nat.reduceAdd, Nat.reduceLeDiff, Nat.reduceLT, Nat.zero_add, Nat.add_zero, Nat.add_assoc, Nat.add_left_cancel_iff, Nat.left_eq_add, Nat.add_eq_left, Nat.lt_irrefl, Nat.le_refl,
    List.drop_zero, List.drop_succ_cons, List.take_succ_cons, List.take_zero, List.headD_cons, List.length_cons, List.length_nil, List.getElem?_cons_zero, List.getElem?_cons_succ, List.set_cons_zero, List.set_cons_succ, List.map_cons, List.map_nil,
    Bool.not_true, Bool.not_false, Bool.false_eq_true, Bool.true_eq_false, Bool.not_eq_true', Bool.not_eq_false', eq_self, false_imp_iff, true_imp_iff, and_true, true_and, and_false, false_and, or_true, true_or, initFr, fr0_at, Qend, resL, resV1, pack,
    decide_eq_true_eq, decide_eq_false_iff_not, Int.toNat_natCast, Option.some.injEq, exists_eq_left', vc_cond2, vcC2_bool, vcCB_T, vcCB_F, vcCB_dec, decide_true, decide_false]
  refine ⟨fun _ => ?_, fun _ _ => ⟨fun _ => ?_, fun hml => ?_⟩⟩
  · refine c13.use ?_
    simp -implicitDefEqProofs only [vc_region, vc_quiet, vcD_nil, vcD_val2, vcDO_val, vcDO_asks, vcD_eff, vcD_guard2, vcDG_TT, vcDG_FF, vcDG_TF, vcDG_FT, vcDG_und, vcDG_Tdec, vcDG_Fdec, vcDEff, saysAll, pendAll, pendNext, addPend, Says, vc_bad, vc_seq, vc_ret, vc_skip, vc_block, vc_exit, vcGrps_nil, vcGrps_cons, vcGrps_guard2, vcG2_bool, vcG2_und, vcGB_TT, vcGB_FF, vcGB_TF, vcGB_FT, vcGB_Tdec, vcGB_Fdec, vcOps_nil, vcOps_cons, vcOut, KCall_ret, KCall_pan, skipF_nil, skipF_cons, Qseq_normal, Qseq_ret, Qseq_exit, Qseq_pan, Qblk_normal, Qblk_exit, Qblk_ret, Qblk_pan, Qpan_eq, Qcut_normal, Qcut_exit, Qcut_ret, Qcut_pan, Qloop_normal, Qloop_exit, Qloop_ret, Qloop_pan,
    stepOp, ev, upd_apply, putF, cellsOf, deref, faddrV, mk, abin, abinI, abinS, ibits, aeqb, aun, fldV, idxOf, elems, isPtr, putRef, splice, fillA, rowsA, minV, peqV, elemsA, rowBytes, strOf, Store.get_push, Store.get_set, Store.n_push, Store.n_set,
    Option.map_some, Option.map_none, reduceIte, Nat.reduceEqDiff, Nat.reduceAdd, Nat.reduceLeDiff, Nat.reduceLT, Nat.zero_add, Nat.add_zero, Nat.add_assoc, Nat.add_left_cancel_iff, Nat.left_eq_add, Nat.add_eq_left, Nat.lt_irrefl, Nat.le_refl,
    List.drop_zero, List.drop_succ_cons, List.take_succ_cons, List.take_zero, List.headD_cons, List.length_cons, List.length_nil, List.getElem?_cons_zero, List.getElem?_cons_succ, List.set_cons_zero, List.set_cons_succ, List.map_cons, List.map_nil,
    Bool.not_true, Bool.not_false, Bool.false_eq_true, Bool.true_eq_false, Bool.not_eq_true', Bool.not_eq_false', eq_self, false_imp_iff, true_imp_iff, and_true, true_and, and_false, false_and, or_true, true_or, initFr, fr0_at, Qend, resL, resV1, pack,
    decide_eq_true_eq, decide_eq_false_iff_not, Int.toNat_natCast, Option.some.injEq, exists_eq_left', vc_cond2, vcC2_bool, vcCB_T, vcCB_F, vcCB_dec, decide_true, decide_false]
    exact hx _
  · refine c13.use ?_
    simp -implicitDefEqProofs only [vc_region, vc_quiet, vcD_nil, vcD_val2, vcDO_val, vcDO_asks, vcD_eff, vcD_guard2, vcDG_TT, vcDG_FF, vcDG_TF, vcDG_FT, vcDG_und, vcDG_Tdec, vcDG_Fdec, vcDEff, saysAll, pendAll, pendNext, addPend, Says, vc_bad, vc_seq, vc_ret, vc_skip, vc_block, vc_exit, vcGrps_nil, vcGrps_cons, vcGrps_guard2, vcG2_bool, vcG2_und, vcGB_TT, vcGB_FF, vcGB_TF, vcGB_FT, vcGB_Tdec, vcGB_Fdec, vcOps_nil, vcOps_cons, vcOut, KCall_ret, KCall_pan, skipF_nil, skipF_cons, Qseq_normal, Qseq_ret, Qseq_exit, Qseq_pan, Qblk_normal, Qblk_exit, Qblk_ret, Qblk_pan, Qpan_eq, Qcut_normal, Qcut_exit, Qcut_ret, Qcut_pan, Qloop_normal, Qloop_exit, Qloop_ret, Qloop_pan,
    stepOp, ev, upd_apply, putF, cellsOf, deref, faddrV, mk, abin, abinI, abinS, ibits, aeqb, aun, fldV, idxOf, elems, isPtr, putRef, splice, fillA, rowsA, minV, peqV, elemsA, rowBytes, strOf, Store.get_push, Store.get_set, Store.n_push, Store.n_set,
    Option.map_some, Option.map_none, reduceIte, Nat.reduceEqDiff, Nat.reduceAdd, Nat.reduceLeDiff, Nat.reduceLT, Nat.zero_add, Nat.add_zero, Nat.add_assoc, Nat.add_left_cancel_iff, Nat.left_eq_add, Nat.add_eq_left, Nat.lt_irrefl, Nat.le_refl,
    List.drop_zero, List.drop_succ_cons, List.take_succ_cons, List.take_zero, List.headD_cons, List.length_cons, List.length_nil, List.getElem?_cons_zero, List.getElem?_cons_succ, List.set_cons_zero, List.set_cons_succ, List.map_cons, List.map_nil,
    Bool.not_true, Bool.not_false, Bool.false_eq_true, Bool.true_eq_false, Bool.not_eq_true', Bool.not_eq_false', eq_self, false_imp_iff, true_imp_iff, and_true, true_and, and_false, false_and, or_true, true_or, initFr, fr0_at, Qend, resL, resV1, pack,
    decide_eq_true_eq, decide_eq_false_iff_not, Int.toNat_natCast, Option.some.injEq, exists_eq_left', vc_cond2, vcC2_bool, vcCB_T, vcCB_F, vcCB_dec, decide_true, decide_false]
    exact hx _
  refine (c15 e hok).use ?_
  by_cases hw : (writeS e).2 = 0
  rotate_left
  · have hw' : ¬ (writeS e).2 = 0 := hw
    rw [write_err hw]
    simp -implicitDefEqProofs only [hw', ne_eq, not_false_eq_true, vc_region, vc_quiet, vcD_nil, vcD_val2, vcDO_val, vcDO_asks, vcD_eff, vcD_guard2, vcDG_TT, vcDG_FF, vcDG_TF, vcDG_FT, vcDG_und, vcDG_Tdec, vcDG_Fdec, vcDEff, saysAll, pendAll, pendNext, addPend, Says, vc_bad, vc_seq, vc_ret, vc_skip, vc_block, vc_exit, vcGrps_nil, vcGrps_cons, vcGrps_guard2, vcG2_bool, vcG2_und, vcGB_TT, vcGB_FF, vcGB_TF, vcGB_FT, vcGB_Tdec, vcGB_Fdec, vcOps_nil, vcOps_cons, vcOut, KCall_ret, KCall_pan, skipF_nil, skipF_cons, Qseq_normal, Qseq_ret, Qseq_exit, Qseq_pan, Qblk_normal, Qblk_exit, Qblk_ret, Qblk_pan, Qpan_eq, Qcut_normal, Qcut_exit, Qcut_ret, Qcut_pan, Qloop_normal, Qloop_exit, Qloop_ret, Qloop_pan,
    stepOp, ev, upd_apply, putF, cellsOf, deref, faddrV, mk, abin, abinI, abinS, ibits, aeqb, aun, fldV, idxOf, elems, isPtr, putRef, splice, fillA, rowsA, minV, peqV, elemsA, rowBytes, strOf, Store.get_push, Store.get_set, Store.n_push, Store.n_set,
    Option.map_some, Option.map_none, reduceIte, Nat.reduceEqDiff, Nat.reduceAdd, Nat.reduceLeDiff, Nat.reduceLT, Nat.zero_add, Nat.add_zero, Nat.add_assoc, Nat.add_left_cancel_iff, Nat.left_eq_add, Nat.add_eq_left, Nat.lt_irrefl, Nat.le_refl,
    List.drop_zero, List.drop_succ_cons, List.take_succ_cons, List.take_zero, List.headD_cons, List.length_cons, List.length_nil, List.getElem?_cons_zero, List.getElem?_cons_succ, List.set_cons_zero, List.set_cons_succ, List.map_cons, List.map_nil,
    Bool.not_true, Bool.not_false, Bool.false_eq_true, Bool.true_eq_false, Bool.not_eq_true', Bool.not_eq_false', eq_self, false_imp_iff, true_imp_iff, and_true, true_and, and_false, false_and, or_true, true_or, initFr, fr0_at, Qend, resL, resV1, pack,
    decide_eq_true_eq, decide_eq_false_iff_not, Int.toNat_natCast, Option.some.injEq, exists_eq_left', vc_cond2, vcC2_bool, vcCB_T, vcCB_F, vcCB_dec, decide_true, decide_false]
    refine c13.use ?_
    simp -implicitDefEqProofs only [vc_region, vc_quiet, vcD_nil, vcD_val2, vcDO_val, vcDO_asks, vcD_eff, vcD_guard2, vcDG_TT, vcDG_FF, vcDG_TF, vcDG_FT, vcDG_und, vcDG_Tdec, vcDG_Fdec, vcDEff, saysAll, pendAll, pendNext, addPend, Says, vc_bad, vc_seq, vc_ret, vc_skip, vc_block, vc_exit, vcGrps_nil, vcGrps_cons, vcGrps_guard2, vcG2_bool, vcG2_und, vcGB_TT, vcGB_FF, vcGB_TF, vcGB_FT, vcGB_Tdec, vcGB_Fdec, vcOps_nil, vcOps_cons, vcOut, KCall_ret, KCall_pan, skipF_nil, skipF_cons, Qseq_normal, Qseq_ret, Qseq_exit, Qseq_pan, Qblk_normal, Qblk_exit, Qblk_ret, Qblk_pan, Qpan_eq, Qcut_normal, Qcut_exit, Qcut_ret, Qcut_pan, Qloop_normal, Qloop_exit, Qloop_ret, Qloop_pan,
    stepOp, ev, upd_apply, putF, cellsOf, deref, faddrV, mk, abin, abinI, abinS, ibits, aeqb, aun, fldV, idxOf, elems, isPtr, putRef, splice, fillA, rowsA, minV, peqV, elemsA, rowBytes, strOf, Store.get_push, Store.get_set, Store.n_push, Store.n_set,
    Option.map_some, Option.map_none, reduceIte, Nat.reduceEqDiff, Nat.reduceAdd, Nat.reduceLeDiff, Nat.reduceLT, Nat.zero_add, Nat.add_zero, Nat.add_assoc, Nat.add_left_cancel_iff, Nat.left_eq_add, Nat.add_eq_left, Nat.lt_irrefl, Nat.le_refl,
    List.drop_zero, List.drop_succ_cons, List.take_succ_cons, List.take_zero, List.headD_cons, List.length_cons, List.length_nil, List.getElem?_cons_zero, List.getElem?_cons_succ, List.set_cons_zero, List.set_cons_succ, List.map_cons, List.map_nil,
    Bool.not_true, Bool.not_false, Bool.false_eq_true, Bool.true_eq_false, Bool.not_eq_true', Bool.not_eq_false', eq_self, false_imp_iff, true_imp_iff, and_true, true_and, and_false, false_and, or_true, true_or, initFr, fr0_at, Qend, resL, resV1, pack,
    decide_eq_true_eq, decide_eq_false_iff_not, Int.toNat_natCast, Option.some.injEq, exists_eq_left', vc_cond2, vcC2_bool, vcCB_T, vcCB_F, vcCB_dec, decide_true, decide_false]
    exact hx _
  obtain ⟨w1, _, _, _, w5⟩ := write_ok2 hw
  rw [hw, w1]
  have hpl := putS_pos e
  have hpu : (putS e).length ≤ 65536 := by rw [putS_length e w5]; exact w5
  have hl0 : ¬ ((putS e).length : Int) = 0 := by omega
  obtain ⟨j, hj, hj1, hj2⟩ := tmod_mod k (putS e).length (by omega)
  simp -implicitDefEqProofs only [hl0, ne_eq, not_true, not_false_eq_true, vc_region, vc_quiet, vcD_nil, vcD_val2, vcDO_val, vcDO_asks, vcD_eff, vcD_guard2, vcDG_TT, vcDG_FF, vcDG_TF, vcDG_FT, vcDG_und, vcDG_Tdec, vcDG_Fdec, vcDEff, saysAll, pendAll, pendNext, addPend, Says, vc_bad, vc_seq, vc_ret, vc_skip, vc_block, vc_exit, vcGrps_nil, vcGrps_cons, vcGrps_guard2, vcG2_bool, vcG2_und, vcGB_TT, vcGB_FF, vcGB_TF, vcGB_FT, vcGB_Tdec, vcGB_Fdec, vcOps_nil, vcOps_cons, vcOut, KCall_ret, KCall_pan, skipF_nil, skipF_cons, Qseq_normal, Qseq_ret, Qseq_exit, Qseq_pan, Qblk_normal, Qblk_exit, Qblk_ret, Qblk_pan, Qpan_eq, Qcut_normal, Qcut_exit, Qcut_ret, Qcut_pan, Qloop_normal, Qloop_exit, Qloop_ret, Qloop_pan,
    stepOp, ev, upd_apply, putF, cellsOf, deref, faddrV, mk, abin, abinI, abinS, ibits, aeqb, aun, fldV, idxOf, elems, isPtr, putRef, splice, fillA, rowsA, minV, peqV, elemsA, rowBytes, strOf, Store.get_push, Store.get_set, Store.n_push, Store.n_set,
    Option.map_some, Option.map_none, reduceIte, Nat.reduceEqDiff, Nat.reduceAdd, Nat.reduceLeDiff, Nat.reduceLT, Nat.zero_add, Nat.add_zero, Nat.add_assoc, Nat.add_left_cancel_iff, Nat.left_eq_add, Nat.add_eq_left, Nat.lt_irrefl, Nat.le_refl,
    List.drop_zero, List.drop_succ_cons, List.take_succ_cons, List.take_zero, List.headD_cons, List.length_cons, List.length_nil, List.getElem?_cons_zero, List.getElem?_cons_succ, List.set_cons_zero, List.set_cons_succ, List.map_cons, List.map_nil,
    Bool.not_true, Bool.not_false, Bool.false_eq_true, Bool.true_eq_false, Bool.not_eq_true', Bool.not_eq_false', eq_self, false_imp_iff, true_imp_iff, and_true, true_and, and_false, false_and, or_true, true_or, initFr, fr0_at, Qend, resL, resV1, pack,
    decide_eq_true_eq, decide_eq_false_iff_not, Int.toNat_natCast, Option.some.injEq, exists_eq_left', vc_cond2, vcC2_bool, vcCB_T, vcCB_F, vcCB_dec, decide_true, decide_false]
  intro _ _
  by_cases hneg : k.tmod (putS e).length < 0
  · have hwj : IntKind.i64.wrap (k.tmod (putS e).length + (putS e).length) = (j : Int) := by
      rw [hj1 hneg]; exact w64 _ (by omega) (by omega)
    have p0 : (0 : Int) ≤ (j : Int) := by omega
    have pj : j ≤ (putS e).length := by omega
    have hz : Int.toNat 0 = 0 := rfl
    have hz0 : (0 : Int) ≤ 0 := by decide
    simp -implicitDefEqProofs only [hneg, hwj, p0, pj, hz, hz0, Nat.zero_le, not_true, not_false_eq_true, vc_region, vc_quiet, vcD_nil, vcD_val2, vcDO_val, vcDO_asks, vcD_eff, vcD_guard2, vcDG_TT, vcDG_FF, vcDG_TF, vcDG_FT, vcDG_und, vcDG_Tdec, vcDG_Fdec, vcDEff, saysAll, pendAll, pendNext, addPend, Says, vc_bad, vc_seq, vc_ret, vc_skip, vc_block, vc_exit, vcGrps_nil, vcGrps_cons, vcGrps_guard2, vcG2_bool, vcG2_und, vcGB_TT, vcGB_FF, vcGB_TF, vcGB_FT, vcGB_Tdec, vcGB_Fdec, vcOps_nil, vcOps_cons, vcOut, KCall_ret, KCall_pan, skipF_nil, skipF_cons, Qseq_normal, Qseq_ret, Qseq_exit, Qseq_pan, Qblk_normal, Qblk_exit, Qblk_ret, Qblk_pan, Qpan_eq, Qcut_normal, Qcut_exit, Qcut_ret, Qcut_pan, Qloop_normal, Qloop_exit, Qloop_ret, Qloop_pan,
    stepOp, ev, upd_apply, putF, cellsOf, deref, faddrV, mk, abin, abinI, abinS, ibits, aeqb, aun, fldV, idxOf, elems, isPtr, putRef, splice, fillA, rowsA, minV, peqV, elemsA, rowBytes, strOf, Store.get_push, Store.get_set, Store.n_push, Store.n_set,
    Option.map_some, Option.map_none, reduceIte, Nat.reduceEqDiff, Nat.reduceAdd, Nat.reduceLeDiff, Nat.reduceLT, Nat.zero_add, Nat.add_zero, Nat.add_assoc, Nat.add_left_cancel_iff, Nat.left_eq_add, Nat.add_eq_left, Nat.lt_irrefl, Nat.le_refl,
    List.drop_zero, List.drop_succ_cons, List.take_succ_cons, List.take_zero, List.headD_cons, List.length_cons, List.length_nil, List.getElem?_cons_zero, List.getElem?_cons_succ, List.set_cons_zero, List.set_cons_succ, List.map_cons, List.map_nil,
    Bool.not_true, Bool.not_false, Bool.false_eq_true, Bool.true_eq_false, Bool.not_eq_true', Bool.not_eq_false', eq_self, false_imp_iff, true_imp_iff, and_true, true_and, and_false, false_and, or_true, true_or, initFr, fr0_at, Qend, resL, resV1, pack,
    decide_eq_true_eq, decide_eq_false_iff_not, Int.toNat_natCast, Option.some.injEq, exists_eq_left', vc_cond2, vcC2_bool, vcCB_T, vcCB_F, vcCB_dec, decide_true, decide_false]
    intro _
    refine (c40 ((putS e).take j)).use ?_
    rw [readS_cut hw j hj]
    simp -implicitDefEqProofs only [encE_length, encE_take5, splice_encE, vc_region, vc_quiet, vcD_nil, vcD_val2, vcDO_val, vcDO_asks, vcD_eff, vcD_guard2, vcDG_TT, vcDG_FF, vcDG_TF, vcDG_FT, vcDG_und, vcDG_Tdec, vcDG_Fdec, vcDEff, saysAll, pendAll, pendNext, addPend, Says, vc_bad, vc_seq, vc_ret, vc_skip, vc_block, vc_exit, vcGrps_nil, vcGrps_cons, vcGrps_guard2, vcG2_bool, vcG2_und, vcGB_TT, vcGB_FF, vcGB_TF, vcGB_FT, vcGB_Tdec, vcGB_Fdec, vcOps_nil, vcOps_cons, vcOut, KCall_ret, KCall_pan, skipF_nil, skipF_cons, Qseq_normal, Qseq_ret, Qseq_exit, Qseq_pan, Qblk_normal, Qblk_exit, Qblk_ret, Qblk_pan, Qpan_eq, Qcut_normal, Qcut_exit, Qcut_ret, Qcut_pan, Qloop_normal, Qloop_exit, Qloop_ret, Qloop_pan,
    stepOp, ev, upd_apply, putF, cellsOf, deref, faddrV, mk, abin, abinI, abinS, ibits, aeqb, aun, fldV, idxOf, elems, isPtr, putRef, splice, fillA, rowsA, minV, peqV, elemsA, rowBytes, strOf, Store.get_push, Store.get_set, Store.n_push, Store.n_set,
    Option.map_some, Option.map_none, reduceIte, Nat.reduceEqDiff, Nat.reduceAdd, Nat.reduceLeDiff, Nat.reduceLT, Nat.zero_add, Nat.add_zero, Nat.add_assoc, Nat.add_left_cancel_iff, Nat.left_eq_add, Nat.add_eq_left, Nat.lt_irrefl, Nat.le_refl,
    List.drop_zero, List.drop_succ_cons, List.take_succ_cons, List.take_zero, List.headD_cons, List.length_cons, List.length_nil, List.getElem?_cons_zero, List.getElem?_cons_succ, List.set_cons_zero, List.set_cons_succ, List.map_cons, List.map_nil,
    Bool.not_true, Bool.not_false, Bool.false_eq_true, Bool.true_eq_false, Bool.not_eq_true', Bool.not_eq_false', eq_self, false_imp_iff, true_imp_iff, and_true, true_and, and_false, false_and, or_true, true_or, initFr, fr0_at, Qend, resL, resV1, pack,
    decide_eq_true_eq, decide_eq_false_iff_not, Int.toNat_natCast, Option.some.injEq, exists_eq_left', vc_cond2, vcC2_bool, vcCB_T, vcCB_F, vcCB_dec, decide_true, decide_false]
    refine ⟨by unfold strMax; omega, ?_⟩
    have hc0 : ((0 : Nat) : Int) = 0 := rfl
    have hc20 : ((20 : Nat) : Int) = 20 := rfl
    have hc25 : ((25 : Nat) : Int) = 25 := rfl
    by_cases hm0 : more = []
    · subst hm0
      rw [List.append_nil]
      refine (c40 (putS e)).use ?_
      rw [readS_put hw]
      simp -implicitDefEqProofs only [encE_length, encE_take5, splice_encE, vc_region, vc_quiet, vcD_nil, vcD_val2, vcDO_val, vcDO_asks, vcD_eff, vcD_guard2, vcDG_TT, vcDG_FF, vcDG_TF, vcDG_FT, vcDG_und, vcDG_Tdec, vcDG_Fdec, vcDEff, saysAll, pendAll, pendNext, addPend, Says, vc_bad, vc_seq, vc_ret, vc_skip, vc_block, vc_exit, vcGrps_nil, vcGrps_cons, vcGrps_guard2, vcG2_bool, vcG2_und, vcGB_TT, vcGB_FF, vcGB_TF, vcGB_FT, vcGB_Tdec, vcGB_Fdec, vcOps_nil, vcOps_cons, vcOut, KCall_ret, KCall_pan, skipF_nil, skipF_cons, Qseq_normal, Qseq_ret, Qseq_exit, Qseq_pan, Qblk_normal, Qblk_exit, Qblk_ret, Qblk_pan, Qpan_eq, Qcut_normal, Qcut_exit, Qcut_ret, Qcut_pan, Qloop_normal, Qloop_exit, Qloop_ret, Qloop_pan,
    stepOp, ev, upd_apply, putF, cellsOf, deref, faddrV, mk, abin, abinI, abinS, ibits, aeqb, aun, fldV, idxOf, elems, isPtr, putRef, splice, fillA, rowsA, minV, peqV, elemsA, rowBytes, strOf, Store.get_push, Store.get_set, Store.n_push, Store.n_set,
    Option.map_some, Option.map_none, reduceIte, Nat.reduceEqDiff, Nat.reduceAdd, Nat.reduceLeDiff, Nat.reduceLT, Nat.zero_add, Nat.add_zero, Nat.add_assoc, Nat.add_left_cancel_iff, Nat.left_eq_add, Nat.add_eq_left, Nat.lt_irrefl, Nat.le_refl,
    List.drop_zero, List.drop_succ_cons, List.take_succ_cons, List.take_zero, List.headD_cons, List.length_cons, List.length_nil, List.getElem?_cons_zero, List.getElem?_cons_succ, List.set_cons_zero, List.set_cons_succ, List.map_cons, List.map_nil,
    Bool.not_true, Bool.not_false, Bool.false_eq_true, Bool.true_eq_false, Bool.not_eq_true', Bool.not_eq_false', eq_self, false_imp_iff, true_imp_iff, and_true, true_and, and_false, false_and, or_true, true_or, initFr, fr0_at, Qend, resL, resV1, pack,
    decide_eq_true_eq, decide_eq_false_iff_not, Int.toNat_natCast, Option.some.injEq, exists_eq_left', vc_cond2, vcC2_bool, vcCB_T, vcCB_F, vcCB_dec, decide_true, decide_false]
      refine c13.use ?_
      simp -implicitDefEqProofs only [hc0, hc20, hc25, ne_eq, not_true, vc_region, vc_quiet, vcD_nil, vcD_val2, vcDO_val, vcDO_asks, vcD_eff, vcD_guard2, vcDG_TT, vcDG_FF, vcDG_TF, vcDG_FT, vcDG_und, vcDG_Tdec, vcDG_Fdec, vcDEff, saysAll, pendAll, pendNext, addPend, Says, vc_bad, vc_seq, vc_ret, vc_skip, vc_block, vc_exit, vcGrps_nil, vcGrps_cons, vcGrps_guard2, vcG2_bool, vcG2_und, vcGB_TT, vcGB_FF, vcGB_TF, vcGB_FT, vcGB_Tdec, vcGB_Fdec, vcOps_nil, vcOps_cons, vcOut, KCall_ret, KCall_pan, skipF_nil, skipF_cons, Qseq_normal, Qseq_ret, Qseq_exit, Qseq_pan, Qblk_normal, Qblk_exit, Qblk_ret, Qblk_pan, Qpan_eq, Qcut_normal, Qcut_exit, Qcut_ret, Qcut_pan, Qloop_normal, Qloop_exit, Qloop_ret, Qloop_pan,
    stepOp, ev, upd_apply, putF, cellsOf, deref, faddrV, mk, abin, abinI, abinS, ibits, aeqb, aun, fldV, idxOf, elems, isPtr, putRef, splice, fillA, rowsA, minV, peqV, elemsA, rowBytes, strOf, Store.get_push, Store.get_set, Store.n_push, Store.n_set,
    Option.map_some, Option.map_none, reduceIte, Nat.reduceEqDiff, Nat.reduceAdd, Nat.reduceLeDiff, Nat.reduceLT, Nat.zero_add, Nat.add_zero, Nat.add_assoc, Nat.add_left_cancel_iff, Nat.left_eq_add, Nat.add_eq_left, Nat.lt_irrefl, Nat.le_refl,
    List.drop_zero, List.drop_succ_cons, List.take_succ_cons, List.take_zero, List.headD_cons, List.length_cons, List.length_nil, List.getElem?_cons_zero, List.getElem?_cons_succ, List.set_cons_zero, List.set_cons_succ, List.map_cons, List.map_nil,
    Bool.not_true, Bool.not_false, Bool.false_eq_true, Bool.true_eq_false, Bool.not_eq_true', Bool.not_eq_false', eq_self, false_imp_iff, true_imp_iff, and_true, true_and, and_false, false_and, or_true, true_or, initFr, fr0_at, Qend, resL, resV1, pack,
    decide_eq_true_eq, decide_eq_false_iff_not, Int.toNat_natCast, Option.some.injEq, exists_eq_left', vc_cond2, vcC2_bool, vcCB_T, vcCB_F, vcCB_dec, decide_true, decide_false]
      exact (((hx _).push _).set _ _ (by omega)).push _ |>.set _ _ (by omega)
    · refine (c40 (putS e ++ more)).use ?_
      rw [readS_more hw more hm0]
      simp -implicitDefEqProofs only [encE_length, encE_take5, splice_encE, vc_region, vc_quiet, vcD_nil, vcD_val2, vcDO_val, vcDO_asks, vcD_eff, vcD_guard2, vcDG_TT, vcDG_FF, vcDG_TF, vcDG_FT, vcDG_und, vcDG_Tdec, vcDG_Fdec, vcDEff, saysAll, pendAll, pendNext, addPend, Says, vc_bad, vc_seq, vc_ret, vc_skip, vc_block, vc_exit, vcGrps_nil, vcGrps_cons, vcGrps_guard2, vcG2_bool, vcG2_und, vcGB_TT, vcGB_FF, vcGB_TF, vcGB_FT, vcGB_Tdec, vcGB_Fdec, vcOps_nil, vcOps_cons, vcOut, KCall_ret, KCall_pan, skipF_nil, skipF_cons, Qseq_normal, Qseq_ret, Qseq_exit, Qseq_pan, Qblk_normal, Qblk_exit, Qblk_ret, Qblk_pan, Qpan_eq, Qcut_normal, Qcut_exit, Qcut_ret, Qcut_pan, Qloop_normal, Qloop_exit, Qloop_ret, Qloop_pan,
    stepOp, ev, upd_apply, putF, cellsOf, deref, faddrV, mk, abin, abinI, abinS, ibits, aeqb, aun, fldV, idxOf, elems, isPtr, putRef, splice, fillA, rowsA, minV, peqV, elemsA, rowBytes, strOf, Store.get_push, Store.get_set, Store.n_push, Store.n_set,
    Option.map_some, Option.map_none, reduceIte, Nat.reduceEqDiff, Nat.reduceAdd, Nat.reduceLeDiff, Nat.reduceLT, Nat.zero_add, Nat.add_zero, Nat.add_assoc, Nat.add_left_cancel_iff, Nat.left_eq_add, Nat.add_eq_left, Nat.lt_irrefl, Nat.le_refl,
    List.drop_zero, List.drop_succ_cons, List.take_succ_cons, List.take_zero, List.headD_cons, List.length_cons, List.length_nil, List.getElem?_cons_zero, List.getElem?_cons_succ, List.set_cons_zero, List.set_cons_succ, List.map_cons, List.map_nil,
    Bool.not_true, Bool.not_false, Bool.false_eq_true, Bool.true_eq_false, Bool.not_eq_true', Bool.not_eq_false', eq_self, false_imp_iff, true_imp_iff, and_true, true_and, and_false, false_and, or_true, true_or, initFr, fr0_at, Qend, resL, resV1, pack,
    decide_eq_true_eq, decide_eq_false_iff_not, Int.toNat_natCast, Option.some.injEq, exists_eq_left', vc_cond2, vcC2_bool, vcCB_T, vcCB_F, vcCB_dec, decide_true, decide_false]
      refine c13.use ?_
      simp -implicitDefEqProofs only [hc0, hc20, hc25, hm0, ne_eq, not_true, not_false_eq_true, vc_region, vc_quiet, vcD_nil, vcD_val2, vcDO_val, vcDO_asks, vcD_eff, vcD_guard2, vcDG_TT, vcDG_FF, vcDG_TF, vcDG_FT, vcDG_und, vcDG_Tdec, vcDG_Fdec, vcDEff, saysAll, pendAll, pendNext, addPend, Says, vc_bad, vc_seq, vc_ret, vc_skip, vc_block, vc_exit, vcGrps_nil, vcGrps_cons, vcGrps_guard2, vcG2_bool, vcG2_und, vcGB_TT, vcGB_FF, vcGB_TF, vcGB_FT, vcGB_Tdec, vcGB_Fdec, vcOps_nil, vcOps_cons, vcOut, KCall_ret, KCall_pan, skipF_nil, skipF_cons, Qseq_normal, Qseq_ret, Qseq_exit, Qseq_pan, Qblk_normal, Qblk_exit, Qblk_ret, Qblk_pan, Qpan_eq, Qcut_normal, Qcut_exit, Qcut_ret, Qcut_pan, Qloop_normal, Qloop_exit, Qloop_ret, Qloop_pan,
    stepOp, ev, upd_apply, putF, cellsOf, deref, faddrV, mk, abin, abinI, abinS, ibits, aeqb, aun, fldV, idxOf, elems, isPtr, putRef, splice, fillA, rowsA, minV, peqV, elemsA, rowBytes, strOf, Store.get_push, Store.get_set, Store.n_push, Store.n_set,
    Option.map_some, Option.map_none, reduceIte, Nat.reduceEqDiff, Nat.reduceAdd, Nat.reduceLeDiff, Nat.reduceLT, Nat.zero_add, Nat.add_zero, Nat.add_assoc, Nat.add_left_cancel_iff, Nat.left_eq_add, Nat.add_eq_left, Nat.lt_irrefl, Nat.le_refl,
    List.drop_zero, List.drop_succ_cons, List.take_succ_cons, List.take_zero, List.headD_cons, List.length_cons, List.length_nil, List.getElem?_cons_zero, List.getElem?_cons_succ, List.set_cons_zero, List.set_cons_succ, List.map_cons, List.map_nil,
    Bool.not_true, Bool.not_false, Bool.false_eq_true, Bool.true_eq_false, Bool.not_eq_true', Bool.not_eq_false', eq_self, false_imp_iff, true_imp_iff, and_true, true_and, and_false, false_and, or_true, true_or, initFr, fr0_at, Qend, resL, resV1, pack,
    decide_eq_true_eq, decide_eq_false_iff_not, Int.toNat_natCast, Option.some.injEq, exists_eq_left', vc_cond2, vcC2_bool, vcCB_T, vcCB_F, vcCB_dec, decide_true, decide_false]
      exact (((hx _).push _).set _ _ (by omega)).push _ |>.set _ _ (by omega)
  · have hwj := hj2 hneg
    rw [hwj] at hneg
    have p0 : (0 : Int) ≤ (j : Int) := by omega
    have pj : j ≤ (putS e).length := by omega
    have hz : Int.toNat 0 = 0 := rfl
    have hz0 : (0 : Int) ≤ 0 := by decide
    simp -implicitDefEqProofs only [hwj, hneg, p0, pj, hz, hz0, Nat.zero_le, not_true, not_false_eq_true, vc_region, vc_quiet, vcD_nil, vcD_val2, vcDO_val, vcDO_asks, vcD_eff, vcD_guard2, vcDG_TT, vcDG_FF, vcDG_TF, vcDG_FT, vcDG_und, vcDG_Tdec, vcDG_Fdec, vcDEff, saysAll, pendAll, pendNext, addPend, Says, vc_bad, vc_seq, vc_ret, vc_skip, vc_block, vc_exit, vcGrps_nil, vcGrps_cons, vcGrps_guard2, vcG2_bool, vcG2_und, vcGB_TT, vcGB_FF, vcGB_TF, vcGB_FT, vcGB_Tdec, vcGB_Fdec, vcOps_nil, vcOps_cons, vcOut, KCall_ret, KCall_pan, skipF_nil, skipF_cons, Qseq_normal, Qseq_ret, Qseq_exit, Qseq_pan, Qblk_normal, Qblk_exit, Qblk_ret, Qblk_pan, Qpan_eq, Qcut_normal, Qcut_exit, Qcut_ret, Qcut_pan, Qloop_normal, Qloop_exit, Qloop_ret, Qloop_pan,
    stepOp, ev, upd_apply, putF, cellsOf, deref, faddrV, mk, abin, abinI, abinS, ibits, aeqb, aun, fldV, idxOf, elems, isPtr, putRef, splice, fillA, rowsA, minV, peqV, elemsA, rowBytes, strOf, Store.get_push, Store.get_set, Store.n_push, Store.n_set,
    Option.map_some, Option.map_none, reduceIte, Nat.reduceEqDiff, Nat.reduceAdd, Nat.reduceLeDiff, Nat.reduceLT, Nat.zero_add, Nat.add_zero, Nat.add_assoc, Nat.add_left_cancel_iff, Nat.left_eq_add, Nat.add_eq_left, Nat.lt_irrefl, Nat.le_refl,
    List.drop_zero, List.drop_succ_cons, List.take_succ_cons, List.take_zero, List.headD_cons, List.length_cons, List.length_nil, List.getElem?_cons_zero, List.getElem?_cons_succ, List.set_cons_zero, List.set_cons_succ, List.map_cons, List.map_nil,
    Bool.not_true, Bool.not_false, Bool.false_eq_true, Bool.true_eq_false, Bool.not_eq_true', Bool.not_eq_false', eq_self, false_imp_iff, true_imp_iff, and_true, true_and, and_false, false_and, or_true, true_or, initFr, fr0_at, Qend, resL, resV1, pack,
    decide_eq_true_eq, decide_eq_false_iff_not, Int.toNat_natCast, Option.some.injEq, exists_eq_left', vc_cond2, vcC2_bool, vcCB_T, vcCB_F, vcCB_dec, decide_true, decide_false]
    refine (c40 ((putS e).take j)).use ?_
    rw [readS_cut hw j hj]
    simp -implicitDefEqProofs only [encE_length, encE_take5, splice_encE, vc_region, vc_quiet, vcD_nil, vcD_val2, vcDO_val, vcDO_asks, vcD_eff, vcD_guard2, vcDG_TT, vcDG_FF, vcDG_TF, vcDG_FT, vcDG_und, vcDG_Tdec, vcDG_Fdec, vcDEff, saysAll, pendAll, pendNext, addPend, Says, vc_bad, vc_seq, vc_ret, vc_skip, vc_block, vc_exit, vcGrps_nil, vcGrps_cons, vcGrps_guard2, vcG2_bool, vcG2_und, vcGB_TT, vcGB_FF, vcGB_TF, vcGB_FT, vcGB_Tdec, vcGB_Fdec, vcOps_nil, vcOps_cons, vcOut, KCall_ret, KCall_pan, skipF_nil, skipF_cons, Qseq_normal, Qseq_ret, Qseq_exit, Qseq_pan, Qblk_normal, Qblk_exit, Qblk_ret, Qblk_pan, Qpan_eq, Qcut_normal, Qcut_exit, Qcut_ret, Qcut_pan, Qloop_normal, Qloop_exit, Qloop_ret, Qloop_pan,
    stepOp, ev, upd_apply, putF, cellsOf, deref, faddrV, mk, abin, abinI, abinS, ibits, aeqb, aun, fldV, idxOf, elems, isPtr, putRef, splice, fillA, rowsA, minV, peqV, elemsA, rowBytes, strOf, Store.get_push, Store.get_set, Store.n_push, Store.n_set,
    Option.map_some, Option.map_none, reduceIte, Nat.reduceEqDiff, Nat.reduceAdd, Nat.reduceLeDiff, Nat.reduceLT, Nat.zero_add, Nat.add_zero, Nat.add_assoc, Nat.add_left_cancel_iff, Nat.left_eq_add, Nat.add_eq_left, Nat.lt_irrefl, Nat.le_refl,
    List.drop_zero, List.drop_succ_cons, List.take_succ_cons, List.take_zero, List.headD_cons, List.length_cons, List.length_nil, List.getElem?_cons_zero, List.getElem?_cons_succ, List.set_cons_zero, List.set_cons_succ, List.map_cons, List.map_nil,
    Bool.not_true, Bool.not_false, Bool.false_eq_true, Bool.true_eq_false, Bool.not_eq_true', Bool.not_eq_false', eq_self, false_imp_iff, true_imp_iff, and_true, true_and, and_false, false_and, or_true, true_or, initFr, fr0_at, Qend, resL, resV1, pack,
    decide_eq_true_eq, decide_eq_false_iff_not, Int.toNat_natCast, Option.some.injEq, exists_eq_left', vc_cond2, vcC2_bool, vcCB_T, vcCB_F, vcCB_dec, decide_true, decide_false]
    refine ⟨by unfold strMax; omega, ?_⟩
    have hc0 : ((0 : Nat) : Int) = 0 := rfl
    have hc20 : ((20 : Nat) : Int) = 20 := rfl
    have hc25 : ((25 : Nat) : Int) = 25 := rfl
    by_cases hm0 : more = []
    · subst hm0
      rw [List.append_nil]
      refine (c40 (putS e)).use ?_
      rw [readS_put hw]
      simp -implicitDefEqProofs only [encE_length, encE_take5, splice_encE, vc_region, vc_quiet, vcD_nil, vcD_val2, vcDO_val, vcDO_asks, vcD_eff, vcD_guard2, vcDG_TT, vcDG_FF, vcDG_TF, vcDG_FT, vcDG_und, vcDG_Tdec, vcDG_Fdec, vcDEff, saysAll, pendAll, pendNext, addPend, Says, vc_bad, vc_seq, vc_ret, vc_skip, vc_block, vc_exit, vcGrps_nil, vcGrps_cons, vcGrps_guard2, vcG2_bool, vcG2_und, vcGB_TT, vcGB_FF, vcGB_TF, vcGB_FT, vcGB_Tdec, vcGB_Fdec, vcOps_nil, vcOps_cons, vcOut, KCall_ret, KCall_pan, skipF_nil, skipF_cons, Qseq_normal, Qseq_ret, Qseq_exit, Qseq_pan, Qblk_normal, Qblk_exit, Qblk_ret, Qblk_pan, Qpan_eq, Qcut_normal, Qcut_exit, Qcut_ret, Qcut_pan, Qloop_normal, Qloop_exit, Qloop_ret, Qloop_pan,
    stepOp, ev, upd_apply, putF, cellsOf, deref, faddrV, mk, abin, abinI, abinS, ibits, aeqb, aun, fldV, idxOf, elems, isPtr, putRef, splice, fillA, rowsA, minV, peqV, elemsA, rowBytes, strOf, Store.get_push, Store.get_set, Store.n_push, Store.n_set,
    Option.map_some, Option.map_none, reduceIte, Nat.reduceEqDiff, Nat.reduceAdd, Nat.reduceLeDiff, Nat.reduceLT, Nat.zero_add, Nat.add_zero, Nat.add_assoc, Nat.add_left_cancel_iff, Nat.left_eq_add, Nat.add_eq_left, Nat.lt_irrefl, Nat.le_refl,
    List.drop_zero, List.drop_succ_cons, List.take_succ_cons, List.take_zero, List.headD_cons, List.length_cons, List.length_nil, List.getElem?_cons_zero, List.getElem?_cons_succ, List.set_cons_zero, List.set_cons_succ, List.map_cons, List.map_nil,
    Bool.not_true, Bool.not_false, Bool.false_eq_true, Bool.true_eq_false, Bool.not_eq_true', Bool.not_eq_false', eq_self, false_imp_iff, true_imp_iff, and_true, true_and, and_false, false_and, or_true, true_or, initFr, fr0_at, Qend, resL, resV1, pack,
    decide_eq_true_eq, decide_eq_false_iff_not, Int.toNat_natCast, Option.some.injEq, exists_eq_left', vc_cond2, vcC2_bool, vcCB_T, vcCB_F, vcCB_dec, decide_true, decide_false]
      refine c13.use ?_
      simp -implicitDefEqProofs only [hc0, hc20, hc25, ne_eq, not_true, vc_region, vc_quiet, vcD_nil, vcD_val2, vcDO_val, vcDO_asks, vcD_eff, vcD_guard2, vcDG_TT, vcDG_FF, vcDG_TF, vcDG_FT, vcDG_und, vcDG_Tdec, vcDG_Fdec, vcDEff, saysAll, pendAll, pendNext, addPend, Says, vc_bad, vc_seq, vc_ret, vc_skip, vc_block, vc_exit, vcGrps_nil, vcGrps_cons, vcGrps_guard2, vcG2_bool, vcG2_und, vcGB_TT, vcGB_FF, vcGB_TF, vcGB_FT, vcGB_Tdec, vcGB_Fdec, vcOps_nil, vcOps_cons, vcOut, KCall_ret, KCall_pan, skipF_nil, skipF_cons, Qseq_normal, Qseq_ret, Qseq_exit, Qseq_pan, Qblk_normal, Qblk_exit, Qblk_ret, Qblk_pan, Qpan_eq, Qcut_normal, Qcut_exit, Qcut_ret, Qcut_pan, Qloop_normal, Qloop_exit, Qloop_ret, Qloop_pan,
    stepOp, ev, upd_apply, putF, cellsOf, deref, faddrV, mk, abin, abinI, abinS, ibits, aeqb, aun, fldV, idxOf, elems, isPtr, putRef, splice, fillA, rowsA, minV, peqV, elemsA, rowBytes, strOf, Store.get_push, Store.get_set, Store.n_push, Store.n_set,
    Option.map_some, Option.map_none, reduceIte, Nat.reduceEqDiff, Nat.reduceAdd, Nat.reduceLeDiff, Nat.reduceLT, Nat.zero_add, Nat.add_zero, Nat.add_assoc, Nat.add_left_cancel_iff, Nat.left_eq_add, Nat.add_eq_left, Nat.lt_irrefl, Nat.le_refl,
    List.drop_zero, List.drop_succ_cons, List.take_succ_cons, List.take_zero, List.headD_cons, List.length_cons, List.length_nil, List.getElem?_cons_zero, List.getElem?_cons_succ, List.set_cons_zero, List.set_cons_succ, List.map_cons, List.map_nil,
    Bool.not_true, Bool.not_false, Bool.false_eq_true, Bool.true_eq_false, Bool.not_eq_true', Bool.not_eq_false', eq_self, false_imp_iff, true_imp_iff, and_true, true_and, and_false, false_and, or_true, true_or, initFr, fr0_at, Qend, resL, resV1, pack,
    decide_eq_true_eq, decide_eq_false_iff_not, Int.toNat_natCast, Option.some.injEq, exists_eq_left', vc_cond2, vcC2_bool, vcCB_T, vcCB_F, vcCB_dec, decide_true, decide_false]
      exact (((hx _).push _).set _ _ (by omega)).push _ |>.set _ _ (by omega)
    · refine (c40 (putS e ++ more)).use ?_
      rw [readS_more hw more hm0]
      simp -implicitDefEqProofs only [encE_length, encE_take5, splice_encE, vc_region, vc_quiet, vcD_nil, vcD_val2, vcDO_val, vcDO_asks, vcD_eff, vcD_guard2, vcDG_TT, vcDG_FF, vcDG_TF, vcDG_FT, vcDG_und, vcDG_Tdec, vcDG_Fdec, vcDEff, saysAll, pendAll, pendNext, addPend, Says, vc_bad, vc_seq, vc_ret, vc_skip, vc_block, vc_exit, vcGrps_nil, vcGrps_cons, vcGrps_guard2, vcG2_bool, vcG2_und, vcGB_TT, vcGB_FF, vcGB_TF, vcGB_FT, vcGB_Tdec, vcGB_Fdec, vcOps_nil, vcOps_cons, vcOut, KCall_ret, KCall_pan, skipF_nil, skipF_cons, Qseq_normal, Qseq_ret, Qseq_exit, Qseq_pan, Qblk_normal, Qblk_exit, Qblk_ret, Qblk_pan, Qpan_eq, Qcut_normal, Qcut_exit, Qcut_ret, Qcut_pan, Qloop_normal, Qloop_exit, Qloop_ret, Qloop_pan,
    stepOp, ev, upd_apply, putF, cellsOf, deref, faddrV, mk, abin, abinI, abinS, ibits, aeqb, aun, fldV, idxOf, elems, isPtr, putRef, splice, fillA, rowsA, minV, peqV, elemsA, rowBytes, strOf, Store.get_push, Store.get_set, Store.n_push, Store.n_set,
    Option.map_some, Option.map_none, reduceIte, Nat.reduceEqDiff, Nat.reduceAdd, Nat.reduceLeDiff, Nat.reduceLT, Nat.zero_add, Nat.add_zero, Nat.add_assoc, Nat.add_left_cancel_iff, Nat.left_eq_add, Nat.add_eq_left, Nat.lt_irrefl, Nat.le_refl,
    List.drop_zero, List.drop_succ_cons, List.take_succ_cons, List.take_zero, List.headD_cons, List.length_cons, List.length_nil, List.getElem?_cons_zero, List.getElem?_cons_succ, List.set_cons_zero, List.set_cons_succ, List.map_cons, List.map_nil,
    Bool.not_true, Bool.not_false, Bool.false_eq_true, Bool.true_eq_false, Bool.not_eq_true', Bool.not_eq_false', eq_self, false_imp_iff, true_imp_iff, and_true, true_and, and_false, false_and, or_true, true_or, initFr, fr0_at, Qend, resL, resV1, pack,
    decide_eq_true_eq, decide_eq_false_iff_not, Int.toNat_natCast, Option.some.injEq, exists_eq_left', vc_cond2, vcC2_bool, vcCB_T, vcCB_F, vcCB_dec, decide_true, decide_false]
      refine c13.use ?_
      simp -implicitDefEqProofs only [hc0, hc20, hc25, hm0, ne_eq, not_true, not_false_eq_true, vc_region, vc_quiet, vcD_nil, vcD_val2, vcDO_val, vcDO_asks, vcD_eff, vcD_guard2, vcDG_TT, vcDG_FF, vcDG_TF, vcDG_FT, vcDG_und, vcDG_Tdec, vcDG_Fdec, vcDEff, saysAll, pendAll, pendNext, addPend, Says, vc_bad, vc_seq, vc_ret, vc_skip, vc_block, vc_exit, vcGrps_nil, vcGrps_cons, vcGrps_guard2, vcG2_bool, vcG2_und, vcGB_TT, vcGB_FF, vcGB_TF, vcGB_FT, vcGB_Tdec, vcGB_Fdec, vcOps_nil, vcOps_cons, vcOut, KCall_ret, KCall_pan, skipF_nil, skipF_cons, Qseq_normal, Qseq_ret, Qseq_exit, Qseq_pan, Qblk_normal, Qblk_exit, Qblk_ret, Qblk_pan, Qpan_eq, Qcut_normal, Qcut_exit, Qcut_ret, Qcut_pan, Qloop_normal, Qloop_exit, Qloop_ret, Qloop_pan,
    stepOp, ev, upd_apply, putF, cellsOf, deref, faddrV, mk, abin, abinI, abinS, ibits, aeqb, aun, fldV, idxOf, elems, isPtr, putRef, splice, fillA, rowsA, minV, peqV, elemsA, rowBytes, strOf, Store.get_push, Store.get_set, Store.n_push, Store.n_set,
    Option.map_some, Option.map_none, reduceIte, Nat.reduceEqDiff, Nat.reduceAdd, Nat.reduceLeDiff, Nat.reduceLT, Nat.zero_add, Nat.add_zero, Nat.add_assoc, Nat.add_left_cancel_iff, Nat.left_eq_add, Nat.add_eq_left, Nat.lt_irrefl, Nat.le_refl,
    List.drop_zero, List.drop_succ_cons, List.take_succ_cons, List.take_zero, List.headD_cons, List.length_cons, List.length_nil, List.getElem?_cons_zero, List.getElem?_cons_succ, List.set_cons_zero, List.set_cons_succ, List.map_cons, List.map_nil,
    Bool.not_true, Bool.not_false, Bool.false_eq_true, Bool.true_eq_false, Bool.not_eq_true', Bool.not_eq_false', eq_self, false_imp_iff, true_imp_iff, and_true, true_and, and_false, false_and, or_true, true_or, initFr, fr0_at, Qend, resL, resV1, pack,
    decide_eq_true_eq, decide_eq_false_iff_not, Int.toNat_natCast, Option.some.injEq, exists_eq_left', vc_cond2, vcC2_bool, vcCB_T, vcCB_F, vcCB_dec, decide_true, decide_false]
      exact (((hx _).push _).set _ _ (by omega)).push _ |>.set _ _ (by omega)
end Go.Proofs.Ytmlllckecalaaaa.Eng
