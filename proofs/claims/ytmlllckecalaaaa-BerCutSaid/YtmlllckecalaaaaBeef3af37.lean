import Derived.Test.YtmlllckecalaaaaProg
import Derived.Test.YtmlllckecalaaaaBce78b81c
set_option linter.unusedVariables false
set_option linter.unusedSimpArgs false
namespace Go.Proofs.Ytmlllckecalaaaa.Eng
open Go Go.Proofs.Try

theorem c43 (e : Elem) : Pure prog 43 [.agg (encE e)] (.bool (tagOk e)) := by
  refine Pure.of (fun _ _ => by simp only [nm]) fun S => acalls_of_vc low43 (by simp) ?_
  rw [encE_eta]
  have hx := (Ext.refl S).push
  simp -implicitDefEqProofs only [B43, vc_region, vc_quiet, vcD_nil, vcD_val, vcD_eff, vcD_guard, vcDOut, vcDEff, vcDGuard, saysAll, pendAll, pendNext, addPend, Says, vc_bad, vc_seq, vc_ret, vc_skip, vc_cond, vcCond, vc_block, vc_exit, vcGrps_nil, vcGrps_cons, vcGrps_guard, vcGuard, vcOps_nil, vcOps_cons, vcOut, KCall_ret, KCall_pan, skipF_nil, skipF_cons, Qseq_normal, Qseq_ret, Qseq_exit, Qseq_pan, Qblk_normal, Qblk_exit, Qblk_ret, Qblk_pan, Qpan_eq, Qcut_normal, Qcut_exit, Qcut_ret, Qcut_pan, Qloop_normal, Qloop_exit, Qloop_ret, Qloop_pan,
    stepOp, ev, upd_apply, putF, cellsOf, deref, faddrV, mk, abin, abinI, abinS, ibits, aeqb, aun, fldV, idxOf, elems, isPtr, putRef, splice, fillA, rowsA, minV, peqV, elemsA, rowBytes, strOf, Store.get_push, Store.get_set, Store.n_push, Store.n_set,
    Option.map_some, Option.map_none, reduceIte, Nat.reduceEqDiff, Nat.reduceAdd, Nat.reduceLeDiff, Nat.reduceLT, Nat.zero_add, Nat.add_zero, Nat.add_assoc, Nat.add_left_cancel_iff, Nat.left_eq_add, Nat.add_eq_left, Nat.lt_irrefl, Nat.le_refl,
    List.drop_zero, List.drop_succ_cons, List.take_succ_cons, List.take_zero, List.headD_cons, List.length_cons, List.length_nil, List.getElem?_cons_zero, List.getElem?_cons_succ, List.set_cons_zero, List.set_cons_succ, List.map_cons, List.map_nil,
    Bool.not_true, Bool.not_false, Bool.false_eq_true, Bool.true_eq_false, Bool.not_eq_true', Bool.not_eq_false', eq_self, false_imp_iff, true_imp_iff, and_true, true_and, and_false, false_and, or_true, true_or, initFr, fr0_at, Qend, resL, resV1, pack,
    decide_eq_true_eq, decide_eq_false_iff_not, Int.toNat_natCast, Option.some.injEq, exists_eq_left', vcCond_T, vcCond_F]
  simp only [AEnd.ret.injEq, AV.bool.injEq]
  simp [tagOk, hx]
  grind

theorem c44 (e : Elem) : Pure prog 44 [.agg (encE e)] (.bool (formOk e)) := by
  refine Pure.of (fun _ _ => by simp only [nm]) fun S => acalls_of_vc low44 (by simp) ?_
  rw [encE_eta]
  have hx := (Ext.refl S).push
  simp -implicitDefEqProofs only [B44, encEs_take, encEs_length, vc_region, vc_quiet, vcD_nil, vcD_val, vcD_eff, vcD_guard, vcDOut, vcDEff, vcDGuard, saysAll, pendAll, pendNext, addPend, Says, vc_bad, vc_seq, vc_ret, vc_skip, vc_cond, vcCond, vc_block, vc_exit, vcGrps_nil, vcGrps_cons, vcGrps_guard, vcGuard, vcOps_nil, vcOps_cons, vcOut, KCall_ret, KCall_pan, skipF_nil, skipF_cons, Qseq_normal, Qseq_ret, Qseq_exit, Qseq_pan, Qblk_normal, Qblk_exit, Qblk_ret, Qblk_pan, Qpan_eq, Qcut_normal, Qcut_exit, Qcut_ret, Qcut_pan, Qloop_normal, Qloop_exit, Qloop_ret, Qloop_pan,
    stepOp, ev, upd_apply, putF, cellsOf, deref, faddrV, mk, abin, abinI, abinS, ibits, aeqb, aun, fldV, idxOf, elems, isPtr, putRef, splice, fillA, rowsA, minV, peqV, elemsA, rowBytes, strOf, Store.get_push, Store.get_set, Store.n_push, Store.n_set,
    Option.map_some, Option.map_none, reduceIte, Nat.reduceEqDiff, Nat.reduceAdd, Nat.reduceLeDiff, Nat.reduceLT, Nat.zero_add, Nat.add_zero, Nat.add_assoc, Nat.add_left_cancel_iff, Nat.left_eq_add, Nat.add_eq_left, Nat.lt_irrefl, Nat.le_refl,
    List.drop_zero, List.drop_succ_cons, List.take_succ_cons, List.take_zero, List.headD_cons, List.length_cons, List.length_nil, List.getElem?_cons_zero, List.getElem?_cons_succ, List.set_cons_zero, List.set_cons_succ, List.map_cons, List.map_nil,
    Bool.not_true, Bool.not_false, Bool.false_eq_true, Bool.true_eq_false, Bool.not_eq_true', Bool.not_eq_false', eq_self, false_imp_iff, true_imp_iff, and_true, true_and, and_false, false_and, or_true, true_or, initFr, fr0_at, Qend, resL, resV1, pack,
    decide_eq_true_eq, decide_eq_false_iff_not, Int.toNat_natCast, Option.some.injEq, exists_eq_left', vcCond_T, vcCond_F]
  refine ⟨fun h => ⟨by simp [formOk, h], hx _⟩, fun h _ => ⟨by simp [formOk, h], hx _⟩⟩

theorem has43 : hasBody prog 43 = true := by kernel_rfl
theorem has44 : hasBody prog 44 = true := by kernel_rfl

theorem eachSs_mem (p : Elem → Bool) (ks : List Elem) (w : Int) (i : Nat) (k : Elem) (h : ks[i]? = some k) (hk : eachS p k w = false) : eachSs p ks w = false := by
  induction ks generalizing i with
  | nil => simp at h
  | cons x xs ih =>
    cases i with
    | zero => simp at h; subst h; simp [eachSs, hk]
    | succ i => simp at h; simp [eachSs, ih i h]
theorem eachSs_app (p : Elem → Bool) : ∀ (a : List Elem) (k : Elem) (w : Int), eachSs p (a ++ [k]) w = (eachSs p a w && eachS p k w)
  | [], k, w => by simp [eachSs]
  | x :: a, k, w => by simp only [List.cons_append, eachSs, eachSs_app p a k w, Bool.and_assoc]

theorem c42 (f : Nat) (p : Elem → Bool) (hf : hasBody prog f = true) (hp : ∀ e, Pure prog f [.agg (encE e)] (.bool (p e))) : ∀ (e : Elem) (w : Int), 0 ≤ w → Pure prog 42 [.agg (encE e), .int .i64 w, .fn (.func f) []] (.bool (eachS p e w)) := by
  intro e
  induction e using Elem.ind with
  | h e ih =>
  intro w hw
  refine Pure.of (fun _ _ => by simp only [nm]) fun S => acalls_of_vc low42 (by simp) ?_
  rw [eachS_eta]
  have hx := (Ext.refl S).push
  simp -implicitDefEqProofs only [B42, hf, List.append_nil, encE_length, encE_take5, encE_drop4, encEs_take, encEs_length, vc_region, vc_quiet, vcD_nil, vcD_val, vcD_eff, vcD_guard, vcDOut, vcDEff, vcDGuard, saysAll, pendAll, pendNext, addPend, Says, vc_bad, vc_seq, vc_ret, vc_skip, vc_cond, vcCond, vc_block, vc_exit, vcGrps_nil, vcGrps_cons, vcGrps_guard, vcGuard, vcOps_nil, vcOps_cons, vcOut, KCall_ret, KCall_pan, skipF_nil, skipF_cons, Qseq_normal, Qseq_ret, Qseq_exit, Qseq_pan, Qblk_normal, Qblk_exit, Qblk_ret, Qblk_pan, Qpan_eq, Qcut_normal, Qcut_exit, Qcut_ret, Qcut_pan, Qloop_normal, Qloop_exit, Qloop_ret, Qloop_pan,
    stepOp, ev, upd_apply, putF, cellsOf, deref, faddrV, mk, abin, abinI, abinS, ibits, aeqb, aun, fldV, idxOf, elems, isPtr, putRef, splice, fillA, rowsA, minV, peqV, elemsA, rowBytes, strOf, Store.get_push, Store.get_set, Store.n_push, Store.n_set,
    Option.map_some, Option.map_none, reduceIte, Nat.reduceEqDiff, Nat.reduceAdd, Nat.reduceLeDiff, Nat.reduceLT, Nat.zero_add, Nat.add_zero, Nat.add_assoc, Nat.add_left_cancel_iff, Nat.left_eq_add, Nat.add_eq_left, Nat.lt_irrefl, Nat.le_refl,
    List.drop_zero, List.drop_succ_cons, List.take_succ_cons, List.take_zero, List.headD_cons, List.length_cons, List.length_nil, List.getElem?_cons_zero, List.getElem?_cons_succ, List.set_cons_zero, List.set_cons_succ, List.map_cons, List.map_nil,
    Bool.not_true, Bool.not_false, Bool.false_eq_true, Bool.true_eq_false, Bool.not_eq_true', Bool.not_eq_false', eq_self, false_imp_iff, true_imp_iff, and_true, true_and, and_false, false_and, or_true, true_or, initFr, fr0_at, Qend, resL, resV1, pack,
    decide_eq_true_eq, decide_eq_false_iff_not, Int.toNat_natCast, Option.some.injEq, exists_eq_left', vcCond_T, vcCond_F]
  refine ⟨fun h => ⟨by simp [h], hx _⟩, fun h20 => ?_⟩
  refine (hp e).use ?_
  simp -implicitDefEqProofs only [hf, List.append_nil, encE_length, encE_take5, encE_drop4, encEs_take, encEs_length, vc_region, vc_quiet, vcD_nil, vcD_val, vcD_eff, vcD_guard, vcDOut, vcDEff, vcDGuard, saysAll, pendAll, pendNext, addPend, Says, vc_bad, vc_seq, vc_ret, vc_skip, vc_cond, vcCond, vc_block, vc_exit, vcGrps_nil, vcGrps_cons, vcGrps_guard, vcGuard, vcOps_nil, vcOps_cons, vcOut, KCall_ret, KCall_pan, skipF_nil, skipF_cons, Qseq_normal, Qseq_ret, Qseq_exit, Qseq_pan, Qblk_normal, Qblk_exit, Qblk_ret, Qblk_pan, Qpan_eq, Qcut_normal, Qcut_exit, Qcut_ret, Qcut_pan, Qloop_normal, Qloop_exit, Qloop_ret, Qloop_pan,
    stepOp, ev, upd_apply, putF, cellsOf, deref, faddrV, mk, abin, abinI, abinS, ibits, aeqb, aun, fldV, idxOf, elems, isPtr, putRef, splice, fillA, rowsA, minV, peqV, elemsA, rowBytes, strOf, Store.get_push, Store.get_set, Store.n_push, Store.n_set,
    Option.map_some, Option.map_none, reduceIte, Nat.reduceEqDiff, Nat.reduceAdd, Nat.reduceLeDiff, Nat.reduceLT, Nat.zero_add, Nat.add_zero, Nat.add_assoc, Nat.add_left_cancel_iff, Nat.left_eq_add, Nat.add_eq_left, Nat.lt_irrefl, Nat.le_refl,
    List.drop_zero, List.drop_succ_cons, List.take_succ_cons, List.take_zero, List.headD_cons, List.length_cons, List.length_nil, List.getElem?_cons_zero, List.getElem?_cons_succ, List.set_cons_zero, List.set_cons_succ, List.map_cons, List.map_nil,
    Bool.not_true, Bool.not_false, Bool.false_eq_true, Bool.true_eq_false, Bool.not_eq_true', Bool.not_eq_false', eq_self, false_imp_iff, true_imp_iff, and_true, true_and, and_false, false_and, or_true, true_or, initFr, fr0_at, Qend, resL, resV1, pack,
    decide_eq_true_eq, decide_eq_false_iff_not, Int.toNat_natCast, Option.some.injEq, exists_eq_left', vcCond_T, vcCond_F]
  refine ⟨fun h => ⟨by simp at h20; simp [h, h20], hx _⟩, fun hpe hlen => ?_⟩
  refine vc_loop (fun n fr S' => ∃ i, i + n = e.kids.length ∧ fr 1 = .int .i64 w ∧ fr 2 = .fn (.func f) [] ∧ fr 16 = .sl 5 (encEs e.kids ++ e.ext) e.kids.length ∧ fr 17 = .int .i64 e.kids.length ∧ fr 18 = .int .i64 i ∧ Ext S S' ∧ eachSs p (e.kids.take i) (w + 1) = true) e.kids.length
    ⟨0, by simp, rfl, rfl, rfl, rfl, rfl, hx _, rfl⟩ ?_
  rintro n fr S' ⟨i, hin, f1, f2, f10, f11, f12, hS, hd⟩
  by_cases hlt : i < e.kids.length
  · obtain ⟨k, hk⟩ : ∃ k, e.kids[i]? = some k := ⟨_, List.getElem?_eq_getElem hlt⟩
    have hkm : k ∈ e.kids := List.mem_of_getElem? hk
    have hat := encEs_at e.kids e.ext i k hk
    have h0 : (0 : Int) ≤ i := by omega
    have hlt' : (i : Int) < e.kids.length := by omega
    unfold lenMax at hlen
    have hw1 : IntKind.i64.wrap (w + 1) = w + 1 := w64 _ (by omega) (by omega)
    have hi1 : IntKind.i64.wrap ((i : Int) + 1) = i + 1 := w64 _ (by omega) (by omega)
    simp -implicitDefEqProofs only [f1, f2, f10, f11, f12, hlt, hlt', h0, hat, hw1, hi1, encE_length, encE_take5, splice_encE, decide_true, vc_region, vc_quiet, vcD_nil, vcD_val, vcD_eff, vcD_guard, vcDOut, vcDEff, vcDGuard, saysAll, pendAll, pendNext, addPend, Says, vc_bad, vc_seq, vc_ret, vc_skip, vc_cond, vcCond, vc_block, vc_exit, vcGrps_nil, vcGrps_cons, vcGrps_guard, vcGuard, vcOps_nil, vcOps_cons, vcOut, KCall_ret, KCall_pan, skipF_nil, skipF_cons, Qseq_normal, Qseq_ret, Qseq_exit, Qseq_pan, Qblk_normal, Qblk_exit, Qblk_ret, Qblk_pan, Qpan_eq, Qcut_normal, Qcut_exit, Qcut_ret, Qcut_pan, Qloop_normal, Qloop_exit, Qloop_ret, Qloop_pan,
    stepOp, ev, upd_apply, putF, cellsOf, deref, faddrV, mk, abin, abinI, abinS, ibits, aeqb, aun, fldV, idxOf, elems, isPtr, putRef, splice, fillA, rowsA, minV, peqV, elemsA, rowBytes, strOf, Store.get_push, Store.get_set, Store.n_push, Store.n_set,
    Option.map_some, Option.map_none, reduceIte, Nat.reduceEqDiff, Nat.reduceAdd, Nat.reduceLeDiff, Nat.reduceLT, Nat.zero_add, Nat.add_zero, Nat.add_assoc, Nat.add_left_cancel_iff, Nat.left_eq_add, Nat.add_eq_left, Nat.lt_irrefl, Nat.le_refl,
    List.drop_zero, List.drop_succ_cons, List.take_succ_cons, List.take_zero, List.headD_cons, List.length_cons, List.length_nil, List.getElem?_cons_zero, List.getElem?_cons_succ, List.set_cons_zero, List.set_cons_succ, List.map_cons, List.map_nil,
    Bool.not_true, Bool.not_false, Bool.false_eq_true, Bool.true_eq_false, Bool.not_eq_true', Bool.not_eq_false', eq_self, false_imp_iff, true_imp_iff, and_true, true_and, and_false, false_and, or_true, true_or, initFr, fr0_at, Qend, resL, resV1, pack,
    decide_eq_true_eq, decide_eq_false_iff_not, Int.toNat_natCast, Option.some.injEq, exists_eq_left', vcCond_T, vcCond_F]
    refine (ih k hkm _ (by omega)).use ?_
    simp -implicitDefEqProofs only [f1, f2, f10, f11, f12, hi1, vc_region, vc_quiet, vcD_nil, vcD_val, vcD_eff, vcD_guard, vcDOut, vcDEff, vcDGuard, saysAll, pendAll, pendNext, addPend, Says, vc_bad, vc_seq, vc_ret, vc_skip, vc_cond, vcCond, vc_block, vc_exit, vcGrps_nil, vcGrps_cons, vcGrps_guard, vcGuard, vcOps_nil, vcOps_cons, vcOut, KCall_ret, KCall_pan, skipF_nil, skipF_cons, Qseq_normal, Qseq_ret, Qseq_exit, Qseq_pan, Qblk_normal, Qblk_exit, Qblk_ret, Qblk_pan, Qpan_eq, Qcut_normal, Qcut_exit, Qcut_ret, Qcut_pan, Qloop_normal, Qloop_exit, Qloop_ret, Qloop_pan,
    stepOp, ev, upd_apply, putF, cellsOf, deref, faddrV, mk, abin, abinI, abinS, ibits, aeqb, aun, fldV, idxOf, elems, isPtr, putRef, splice, fillA, rowsA, minV, peqV, elemsA, rowBytes, strOf, Store.get_push, Store.get_set, Store.n_push, Store.n_set,
    Option.map_some, Option.map_none, reduceIte, Nat.reduceEqDiff, Nat.reduceAdd, Nat.reduceLeDiff, Nat.reduceLT, Nat.zero_add, Nat.add_zero, Nat.add_assoc, Nat.add_left_cancel_iff, Nat.left_eq_add, Nat.add_eq_left, Nat.lt_irrefl, Nat.le_refl,
    List.drop_zero, List.drop_succ_cons, List.take_succ_cons, List.take_zero, List.headD_cons, List.length_cons, List.length_nil, List.getElem?_cons_zero, List.getElem?_cons_succ, List.set_cons_zero, List.set_cons_succ, List.map_cons, List.map_nil,
    Bool.not_true, Bool.not_false, Bool.false_eq_true, Bool.true_eq_false, Bool.not_eq_true', Bool.not_eq_false', eq_self, false_imp_iff, true_imp_iff, and_true, true_and, and_false, false_and, or_true, true_or, initFr, fr0_at, Qend, resL, resV1, pack,
    decide_eq_true_eq, decide_eq_false_iff_not, Int.toNat_natCast, Option.some.injEq, exists_eq_left', vcCond_T, vcCond_F]
    refine ⟨fun h => ⟨by rw [eachSs_mem _ _ _ _ _ hk h]; simp at h20; simp [h20], (hS.push _).set _ _ hS.n⟩, fun h => ⟨n - 1, by omega, i + 1, by omega, by simp, (hS.push _).set _ _ hS.n, by rw [take_succ hk, eachSs_app, hd, h]; rfl⟩⟩
  · have hlt' : ¬ (i : Int) < e.kids.length := by omega
    have hi : i = e.kids.length := by omega
    simp -implicitDefEqProofs only [f1, f10, f11, f12, hlt', decide_false, vc_region, vc_quiet, vcD_nil, vcD_val, vcD_eff, vcD_guard, vcDOut, vcDEff, vcDGuard, saysAll, pendAll, pendNext, addPend, Says, vc_bad, vc_seq, vc_ret, vc_skip, vc_cond, vcCond, vc_block, vc_exit, vcGrps_nil, vcGrps_cons, vcGrps_guard, vcGuard, vcOps_nil, vcOps_cons, vcOut, KCall_ret, KCall_pan, skipF_nil, skipF_cons, Qseq_normal, Qseq_ret, Qseq_exit, Qseq_pan, Qblk_normal, Qblk_exit, Qblk_ret, Qblk_pan, Qpan_eq, Qcut_normal, Qcut_exit, Qcut_ret, Qcut_pan, Qloop_normal, Qloop_exit, Qloop_ret, Qloop_pan,
    stepOp, ev, upd_apply, putF, cellsOf, deref, faddrV, mk, abin, abinI, abinS, ibits, aeqb, aun, fldV, idxOf, elems, isPtr, putRef, splice, fillA, rowsA, minV, peqV, elemsA, rowBytes, strOf, Store.get_push, Store.get_set, Store.n_push, Store.n_set,
    Option.map_some, Option.map_none, reduceIte, Nat.reduceEqDiff, Nat.reduceAdd, Nat.reduceLeDiff, Nat.reduceLT, Nat.zero_add, Nat.add_zero, Nat.add_assoc, Nat.add_left_cancel_iff, Nat.left_eq_add, Nat.add_eq_left, Nat.lt_irrefl, Nat.le_refl,
    List.drop_zero, List.drop_succ_cons, List.take_succ_cons, List.take_zero, List.headD_cons, List.length_cons, List.length_nil, List.getElem?_cons_zero, List.getElem?_cons_succ, List.set_cons_zero, List.set_cons_succ, List.map_cons, List.map_nil,
    Bool.not_true, Bool.not_false, Bool.false_eq_true, Bool.true_eq_false, Bool.not_eq_true', Bool.not_eq_false', eq_self, false_imp_iff, true_imp_iff, and_true, true_and, and_false, false_and, or_true, true_or, initFr, fr0_at, Qend, resL, resV1, pack,
    decide_eq_true_eq, decide_eq_false_iff_not, Int.toNat_natCast, Option.some.injEq, exists_eq_left', vcCond_T, vcCond_F]
    rw [hi, List.take_length] at hd
    exact ⟨by rw [hd]; simp at h20; simp [h20, hpe], hS⟩

theorem deepSs_mem (ks : List Elem) (w : Int) (i : Nat) (k : Elem) (h : ks[i]? = some k) (hk : deepS k w = true) : deepSs ks w = true := by
  induction ks generalizing i with
  | nil => simp at h
  | cons x xs ih =>
    cases i with
    | zero => simp at h; subst h; simp [deepSs, hk]
    | succ i => simp at h; simp [deepSs, ih i h]
theorem deepSs_app : ∀ (a : List Elem) (k : Elem) (w : Int), deepSs (a ++ [k]) w = (deepSs a w || deepS k w)
  | [], k, w => by simp [deepSs]
  | x :: a, k, w => by simp only [List.cons_append, deepSs, deepSs_app a k w, Bool.or_assoc]

theorem c45 : ∀ (e : Elem) (w : Int), 0 ≤ w → Pure prog 45 [.agg (encE e), .int .i64 w] (.bool (deepS e w)) := by
  intro e
  induction e using Elem.ind with
  | h e ih =>
  intro w hw
  refine Pure.of (fun _ _ => by simp only [nm]) fun S => acalls_of_vc low45 (by simp) ?_
  rw [encE_eta, deepS_eta]
  have hx := (Ext.refl S).push
  simp -implicitDefEqProofs only [B45, encEs_take, encEs_length, vc_region, vc_quiet, vcD_nil, vcD_val, vcD_eff, vcD_guard, vcDOut, vcDEff, vcDGuard, saysAll, pendAll, pendNext, addPend, Says, vc_bad, vc_seq, vc_ret, vc_skip, vc_cond, vcCond, vc_block, vc_exit, vcGrps_nil, vcGrps_cons, vcGrps_guard, vcGuard, vcOps_nil, vcOps_cons, vcOut, KCall_ret, KCall_pan, skipF_nil, skipF_cons, Qseq_normal, Qseq_ret, Qseq_exit, Qseq_pan, Qblk_normal, Qblk_exit, Qblk_ret, Qblk_pan, Qpan_eq, Qcut_normal, Qcut_exit, Qcut_ret, Qcut_pan, Qloop_normal, Qloop_exit, Qloop_ret, Qloop_pan,
    stepOp, ev, upd_apply, putF, cellsOf, deref, faddrV, mk, abin, abinI, abinS, ibits, aeqb, aun, fldV, idxOf, elems, isPtr, putRef, splice, fillA, rowsA, minV, peqV, elemsA, rowBytes, strOf, Store.get_push, Store.get_set, Store.n_push, Store.n_set,
    Option.map_some, Option.map_none, reduceIte, Nat.reduceEqDiff, Nat.reduceAdd, Nat.reduceLeDiff, Nat.reduceLT, Nat.zero_add, Nat.add_zero, Nat.add_assoc, Nat.add_left_cancel_iff, Nat.left_eq_add, Nat.add_eq_left, Nat.lt_irrefl, Nat.le_refl,
    List.drop_zero, List.drop_succ_cons, List.take_succ_cons, List.take_zero, List.headD_cons, List.length_cons, List.length_nil, List.getElem?_cons_zero, List.getElem?_cons_succ, List.set_cons_zero, List.set_cons_succ, List.map_cons, List.map_nil,
    Bool.not_true, Bool.not_false, Bool.false_eq_true, Bool.true_eq_false, Bool.not_eq_true', Bool.not_eq_false', eq_self, false_imp_iff, true_imp_iff, and_true, true_and, and_false, false_and, or_true, true_or, initFr, fr0_at, Qend, resL, resV1, pack,
    decide_eq_true_eq, decide_eq_false_iff_not, Int.toNat_natCast, Option.some.injEq, exists_eq_left', vcCond_T, vcCond_F]
  refine ⟨fun h => ⟨by simp [h], hx _⟩, fun h20 hlen => ?_⟩
  refine vc_loop (fun n fr S' => ∃ i, i + n = e.kids.length ∧ fr 1 = .int .i64 w ∧ fr 10 = .sl 5 (encEs e.kids ++ e.ext) e.kids.length ∧ fr 11 = .int .i64 e.kids.length ∧ fr 12 = .int .i64 i ∧ Ext S S' ∧ deepSs (e.kids.take i) (w + 1) = false) e.kids.length ⟨0, by simp, rfl, rfl, rfl, rfl, hx _, rfl⟩ ?_
  rintro n fr S' ⟨i, hin, f1, f10, f11, f12, hS, hd⟩
  by_cases hlt : i < e.kids.length
  · obtain ⟨k, hk⟩ : ∃ k, e.kids[i]? = some k := ⟨_, List.getElem?_eq_getElem hlt⟩
    have hkm : k ∈ e.kids := List.mem_of_getElem? hk
    have hat := encEs_at e.kids e.ext i k hk
    have h0 : (0 : Int) ≤ i := by omega
    have hlt' : (i : Int) < e.kids.length := by omega
    unfold lenMax at hlen
    have hw1 : IntKind.i64.wrap (w + 1) = w + 1 := w64 _ (by omega) (by omega)
    have hi1 : IntKind.i64.wrap ((i : Int) + 1) = i + 1 := w64 _ (by omega) (by omega)
    simp -implicitDefEqProofs only [f1, f10, f11, f12, hlt, hlt', h0, hat, hw1, hi1, encE_length, encE_take5, splice_encE, decide_true, vc_region, vc_quiet, vcD_nil, vcD_val, vcD_eff, vcD_guard, vcDOut, vcDEff, vcDGuard, saysAll, pendAll, pendNext, addPend, Says, vc_bad, vc_seq, vc_ret, vc_skip, vc_cond, vcCond, vc_block, vc_exit, vcGrps_nil, vcGrps_cons, vcGrps_guard, vcGuard, vcOps_nil, vcOps_cons, vcOut, KCall_ret, KCall_pan, skipF_nil, skipF_cons, Qseq_normal, Qseq_ret, Qseq_exit, Qseq_pan, Qblk_normal, Qblk_exit, Qblk_ret, Qblk_pan, Qpan_eq, Qcut_normal, Qcut_exit, Qcut_ret, Qcut_pan, Qloop_normal, Qloop_exit, Qloop_ret, Qloop_pan,
    stepOp, ev, upd_apply, putF, cellsOf, deref, faddrV, mk, abin, abinI, abinS, ibits, aeqb, aun, fldV, idxOf, elems, isPtr, putRef, splice, fillA, rowsA, minV, peqV, elemsA, rowBytes, strOf, Store.get_push, Store.get_set, Store.n_push, Store.n_set,
    Option.map_some, Option.map_none, reduceIte, Nat.reduceEqDiff, Nat.reduceAdd, Nat.reduceLeDiff, Nat.reduceLT, Nat.zero_add, Nat.add_zero, Nat.add_assoc, Nat.add_left_cancel_iff, Nat.left_eq_add, Nat.add_eq_left, Nat.lt_irrefl, Nat.le_refl,
    List.drop_zero, List.drop_succ_cons, List.take_succ_cons, List.take_zero, List.headD_cons, List.length_cons, List.length_nil, List.getElem?_cons_zero, List.getElem?_cons_succ, List.set_cons_zero, List.set_cons_succ, List.map_cons, List.map_nil,
    Bool.not_true, Bool.not_false, Bool.false_eq_true, Bool.true_eq_false, Bool.not_eq_true', Bool.not_eq_false', eq_self, false_imp_iff, true_imp_iff, and_true, true_and, and_false, false_and, or_true, true_or, initFr, fr0_at, Qend, resL, resV1, pack,
    decide_eq_true_eq, decide_eq_false_iff_not, Int.toNat_natCast, Option.some.injEq, exists_eq_left', vcCond_T, vcCond_F]
    refine (ih k hkm _ (by omega)).use ?_
    simp -implicitDefEqProofs only [f1, f10, f11, f12, hi1, vc_region, vc_quiet, vcD_nil, vcD_val, vcD_eff, vcD_guard, vcDOut, vcDEff, vcDGuard, saysAll, pendAll, pendNext, addPend, Says, vc_bad, vc_seq, vc_ret, vc_skip, vc_cond, vcCond, vc_block, vc_exit, vcGrps_nil, vcGrps_cons, vcGrps_guard, vcGuard, vcOps_nil, vcOps_cons, vcOut, KCall_ret, KCall_pan, skipF_nil, skipF_cons, Qseq_normal, Qseq_ret, Qseq_exit, Qseq_pan, Qblk_normal, Qblk_exit, Qblk_ret, Qblk_pan, Qpan_eq, Qcut_normal, Qcut_exit, Qcut_ret, Qcut_pan, Qloop_normal, Qloop_exit, Qloop_ret, Qloop_pan,
    stepOp, ev, upd_apply, putF, cellsOf, deref, faddrV, mk, abin, abinI, abinS, ibits, aeqb, aun, fldV, idxOf, elems, isPtr, putRef, splice, fillA, rowsA, minV, peqV, elemsA, rowBytes, strOf, Store.get_push, Store.get_set, Store.n_push, Store.n_set,
    Option.map_some, Option.map_none, reduceIte, Nat.reduceEqDiff, Nat.reduceAdd, Nat.reduceLeDiff, Nat.reduceLT, Nat.zero_add, Nat.add_zero, Nat.add_assoc, Nat.add_left_cancel_iff, Nat.left_eq_add, Nat.add_eq_left, Nat.lt_irrefl, Nat.le_refl,
    List.drop_zero, List.drop_succ_cons, List.take_succ_cons, List.take_zero, List.headD_cons, List.length_cons, List.length_nil, List.getElem?_cons_zero, List.getElem?_cons_succ, List.set_cons_zero, List.set_cons_succ, List.map_cons, List.map_nil,
    Bool.not_true, Bool.not_false, Bool.false_eq_true, Bool.true_eq_false, Bool.not_eq_true', Bool.not_eq_false', eq_self, false_imp_iff, true_imp_iff, and_true, true_and, and_false, false_and, or_true, true_or, initFr, fr0_at, Qend, resL, resV1, pack,
    decide_eq_true_eq, decide_eq_false_iff_not, Int.toNat_natCast, Option.some.injEq, exists_eq_left', vcCond_T, vcCond_F]
    refine ⟨fun h => ⟨by rw [deepSs_mem _ _ _ _ hk h]; simp, (hS.push _).set _ _ hS.n⟩, fun h => ⟨n - 1, by omega, i + 1, by omega, by simp, (hS.push _).set _ _ hS.n, by rw [take_succ hk, deepSs_app, hd, h]; rfl⟩⟩
  · have hlt' : ¬ (i : Int) < e.kids.length := by omega
    have hi : i = e.kids.length := by omega
    simp -implicitDefEqProofs only [f1, f10, f11, f12, hlt', decide_false, vc_region, vc_quiet, vcD_nil, vcD_val, vcD_eff, vcD_guard, vcDOut, vcDEff, vcDGuard, saysAll, pendAll, pendNext, addPend, Says, vc_bad, vc_seq, vc_ret, vc_skip, vc_cond, vcCond, vc_block, vc_exit, vcGrps_nil, vcGrps_cons, vcGrps_guard, vcGuard, vcOps_nil, vcOps_cons, vcOut, KCall_ret, KCall_pan, skipF_nil, skipF_cons, Qseq_normal, Qseq_ret, Qseq_exit, Qseq_pan, Qblk_normal, Qblk_exit, Qblk_ret, Qblk_pan, Qpan_eq, Qcut_normal, Qcut_exit, Qcut_ret, Qcut_pan, Qloop_normal, Qloop_exit, Qloop_ret, Qloop_pan,
    stepOp, ev, upd_apply, putF, cellsOf, deref, faddrV, mk, abin, abinI, abinS, ibits, aeqb, aun, fldV, idxOf, elems, isPtr, putRef, splice, fillA, rowsA, minV, peqV, elemsA, rowBytes, strOf, Store.get_push, Store.get_set, Store.n_push, Store.n_set,
    Option.map_some, Option.map_none, reduceIte, Nat.reduceEqDiff, Nat.reduceAdd, Nat.reduceLeDiff, Nat.reduceLT, Nat.zero_add, Nat.add_zero, Nat.add_assoc, Nat.add_left_cancel_iff, Nat.left_eq_add, Nat.add_eq_left, Nat.lt_irrefl, Nat.le_refl,
    List.drop_zero, List.drop_succ_cons, List.take_succ_cons, List.take_zero, List.headD_cons, List.length_cons, List.length_nil, List.getElem?_cons_zero, List.getElem?_cons_succ, List.set_cons_zero, List.set_cons_succ, List.map_cons, List.map_nil,
    Bool.not_true, Bool.not_false, Bool.false_eq_true, Bool.true_eq_false, Bool.not_eq_true', Bool.not_eq_false', eq_self, false_imp_iff, true_imp_iff, and_true, true_and, and_false, false_and, or_true, true_or, initFr, fr0_at, Qend, resL, resV1, pack,
    decide_eq_true_eq, decide_eq_false_iff_not, Int.toNat_natCast, Option.some.injEq, exists_eq_left', vcCond_T, vcCond_F]
    rw [hi, List.take_length] at hd
    exact ⟨by rw [hd]; simp at h20; simp [h20], hS⟩

theorem manySs_stop (ks : List Elem) (n : Int) (h : ¬ n ≤ 500) : manySs ks n = n := by cases ks <;> simp [manySs, h]

theorem c12 : ∀ (e : Elem), Pure prog 12 [.agg (encE e)] (.int .i64 (manyS e)) := by
  intro e
  induction e using Elem.ind with
  | h e ih =>
  refine Pure.of (fun _ _ => by simp only [nm]) fun S => acalls_of_vc low12 (by simp) ?_
  rw [encE_eta, manyS_eta]
  have hx := (Ext.refl S).push
  have hl := Store.get_push_same S (.box 24 [AV.int .i64 e.cls, .int .i64 e.tag, .bool e.cons, .str e.bytes, .sl 5 (encEs e.kids ++ e.ext) e.kids.length])
  simp -implicitDefEqProofs only [B12, encEs_take, encEs_length, vc_region, vc_quiet, vcD_nil, vcD_val, vcD_eff, vcD_guard, vcDOut, vcDEff, vcDGuard, saysAll, pendAll, pendNext, addPend, Says, vc_bad, vc_seq, vc_ret, vc_skip, vc_cond, vcCond, vc_block, vc_exit, vcGrps_nil, vcGrps_cons, vcGrps_guard, vcGuard, vcOps_nil, vcOps_cons, vcOut, KCall_ret, KCall_pan, skipF_nil, skipF_cons, Qseq_normal, Qseq_ret, Qseq_exit, Qseq_pan, Qblk_normal, Qblk_exit, Qblk_ret, Qblk_pan, Qpan_eq, Qcut_normal, Qcut_exit, Qcut_ret, Qcut_pan, Qloop_normal, Qloop_exit, Qloop_ret, Qloop_pan,
    stepOp, ev, upd_apply, putF, cellsOf, deref, faddrV, mk, abin, abinI, abinS, ibits, aeqb, aun, fldV, idxOf, elems, isPtr, putRef, splice, fillA, rowsA, minV, peqV, elemsA, rowBytes, strOf, Store.get_push, Store.get_set, Store.n_push, Store.n_set,
    Option.map_some, Option.map_none, reduceIte, Nat.reduceEqDiff, Nat.reduceAdd, Nat.reduceLeDiff, Nat.reduceLT, Nat.zero_add, Nat.add_zero, Nat.add_assoc, Nat.add_left_cancel_iff, Nat.left_eq_add, Nat.add_eq_left, Nat.lt_irrefl, Nat.le_refl,
    List.drop_zero, List.drop_succ_cons, List.take_succ_cons, List.take_zero, List.headD_cons, List.length_cons, List.length_nil, List.getElem?_cons_zero, List.getElem?_cons_succ, List.set_cons_zero, List.set_cons_succ, List.map_cons, List.map_nil,
    Bool.not_true, Bool.not_false, Bool.false_eq_true, Bool.true_eq_false, Bool.not_eq_true', Bool.not_eq_false', eq_self, false_imp_iff, true_imp_iff, and_true, true_and, and_false, false_and, or_true, true_or, initFr, fr0_at, Qend, resL, resV1, pack,
    decide_eq_true_eq, decide_eq_false_iff_not, Int.toNat_natCast, Option.some.injEq, exists_eq_left', vcCond_T, vcCond_F]
  refine vc_loop (fun n fr S' => ∃ i c, i + n = e.kids.length ∧ fr 1 = .ptr S.n 0 ∧ fr 3 = .int .i64 c ∧ fr 4 = .int .i64 i ∧ Ext S S' ∧
    S'.get S.n = some (.box 24 [AV.int .i64 e.cls, .int .i64 e.tag, .bool e.cons, .str e.bytes, .sl 5 (encEs e.kids ++ e.ext) e.kids.length]) ∧ manySs (e.kids.drop i) c = manySs e.kids 1) e.kids.length ⟨0, 1, by simp, rfl, rfl, rfl, hx _, hl, rfl⟩ ?_
  rintro n fr S' ⟨i, c, hin, f1, f3, f4, hS, hget, hd⟩
  by_cases hlt : i < e.kids.length
  · obtain ⟨k, hk⟩ : ∃ k, e.kids[i]? = some k := ⟨_, List.getElem?_eq_getElem hlt⟩
    have hkm : k ∈ e.kids := List.mem_of_getElem? hk
    have hat := encEs_at e.kids e.ext i k hk
    have h0 : (0 : Int) ≤ i := by omega
    have hlt' : (i : Int) < e.kids.length := by omega
    by_cases hc : c ≤ 500
    · simp -implicitDefEqProofs only [f1, f3, f4, hget, hlt, hlt', h0, hat, hc, encEs_take, encEs_length, encE_length, encE_take5, splice_encE, decide_true, decide_false, vc_region, vc_quiet, vcD_nil, vcD_val, vcD_eff, vcD_guard, vcDOut, vcDEff, vcDGuard, saysAll, pendAll, pendNext, addPend, Says, vc_bad, vc_seq, vc_ret, vc_skip, vc_cond, vcCond, vc_block, vc_exit, vcGrps_nil, vcGrps_cons, vcGrps_guard, vcGuard, vcOps_nil, vcOps_cons, vcOut, KCall_ret, KCall_pan, skipF_nil, skipF_cons, Qseq_normal, Qseq_ret, Qseq_exit, Qseq_pan, Qblk_normal, Qblk_exit, Qblk_ret, Qblk_pan, Qpan_eq, Qcut_normal, Qcut_exit, Qcut_ret, Qcut_pan, Qloop_normal, Qloop_exit, Qloop_ret, Qloop_pan,
    stepOp, ev, upd_apply, putF, cellsOf, deref, faddrV, mk, abin, abinI, abinS, ibits, aeqb, aun, fldV, idxOf, elems, isPtr, putRef, splice, fillA, rowsA, minV, peqV, elemsA, rowBytes, strOf, Store.get_push, Store.get_set, Store.n_push, Store.n_set,
    Option.map_some, Option.map_none, reduceIte, Nat.reduceEqDiff, Nat.reduceAdd, Nat.reduceLeDiff, Nat.reduceLT, Nat.zero_add, Nat.add_zero, Nat.add_assoc, Nat.add_left_cancel_iff, Nat.left_eq_add, Nat.add_eq_left, Nat.lt_irrefl, Nat.le_refl,
    List.drop_zero, List.drop_succ_cons, List.take_succ_cons, List.take_zero, List.headD_cons, List.length_cons, List.length_nil, List.getElem?_cons_zero, List.getElem?_cons_succ, List.set_cons_zero, List.set_cons_succ, List.map_cons, List.map_nil,
    Bool.not_true, Bool.not_false, Bool.false_eq_true, Bool.true_eq_false, Bool.not_eq_true', Bool.not_eq_false', eq_self, false_imp_iff, true_imp_iff, and_true, true_and, and_false, false_and, or_true, true_or, initFr, fr0_at, Qend, resL, resV1, pack,
    decide_eq_true_eq, decide_eq_false_iff_not, Int.toNat_natCast, Option.some.injEq, exists_eq_left', vcCond_T, vcCond_F]
      intro hlen
      unfold lenMax at hlen
      refine (ih k hkm).use ?_
      have hi1 : IntKind.i64.wrap ((i : Int) + 1) = i + 1 := w64 _ (by omega) (by omega)
      simp -implicitDefEqProofs only [f1, f3, f4, hi1, vc_region, vc_quiet, vcD_nil, vcD_val, vcD_eff, vcD_guard, vcDOut, vcDEff, vcDGuard, saysAll, pendAll, pendNext, addPend, Says, vc_bad, vc_seq, vc_ret, vc_skip, vc_cond, vcCond, vc_block, vc_exit, vcGrps_nil, vcGrps_cons, vcGrps_guard, vcGuard, vcOps_nil, vcOps_cons, vcOut, KCall_ret, KCall_pan, skipF_nil, skipF_cons, Qseq_normal, Qseq_ret, Qseq_exit, Qseq_pan, Qblk_normal, Qblk_exit, Qblk_ret, Qblk_pan, Qpan_eq, Qcut_normal, Qcut_exit, Qcut_ret, Qcut_pan, Qloop_normal, Qloop_exit, Qloop_ret, Qloop_pan,
    stepOp, ev, upd_apply, putF, cellsOf, deref, faddrV, mk, abin, abinI, abinS, ibits, aeqb, aun, fldV, idxOf, elems, isPtr, putRef, splice, fillA, rowsA, minV, peqV, elemsA, rowBytes, strOf, Store.get_push, Store.get_set, Store.n_push, Store.n_set,
    Option.map_some, Option.map_none, reduceIte, Nat.reduceEqDiff, Nat.reduceAdd, Nat.reduceLeDiff, Nat.reduceLT, Nat.zero_add, Nat.add_zero, Nat.add_assoc, Nat.add_left_cancel_iff, Nat.left_eq_add, Nat.add_eq_left, Nat.lt_irrefl, Nat.le_refl,
    List.drop_zero, List.drop_succ_cons, List.take_succ_cons, List.take_zero, List.headD_cons, List.length_cons, List.length_nil, List.getElem?_cons_zero, List.getElem?_cons_succ, List.set_cons_zero, List.set_cons_succ, List.map_cons, List.map_nil,
    Bool.not_true, Bool.not_false, Bool.false_eq_true, Bool.true_eq_false, Bool.not_eq_true', Bool.not_eq_false', eq_self, false_imp_iff, true_imp_iff, and_true, true_and, and_false, false_and, or_true, true_or, initFr, fr0_at, Qend, resL, resV1, pack,
    decide_eq_true_eq, decide_eq_false_iff_not, Int.toNat_natCast, Option.some.injEq, exists_eq_left', vcCond_T, vcCond_F]
      refine ⟨n - 1, by omega, i + 1, _, by omega, rfl, by simp, hS, hget, ?_⟩
      rw [drop_cons hk] at hd
      simp only [manySs, hc, if_true] at hd
      exact hd
    · simp -implicitDefEqProofs only [f1, f3, f4, hget, hlt, hlt', h0, hat, hc, encEs_take, encEs_length, encE_length, encE_take5, splice_encE, decide_true, decide_false, vc_region, vc_quiet, vcD_nil, vcD_val, vcD_eff, vcD_guard, vcDOut, vcDEff, vcDGuard, saysAll, pendAll, pendNext, addPend, Says, vc_bad, vc_seq, vc_ret, vc_skip, vc_cond, vcCond, vc_block, vc_exit, vcGrps_nil, vcGrps_cons, vcGrps_guard, vcGuard, vcOps_nil, vcOps_cons, vcOut, KCall_ret, KCall_pan, skipF_nil, skipF_cons, Qseq_normal, Qseq_ret, Qseq_exit, Qseq_pan, Qblk_normal, Qblk_exit, Qblk_ret, Qblk_pan, Qpan_eq, Qcut_normal, Qcut_exit, Qcut_ret, Qcut_pan, Qloop_normal, Qloop_exit, Qloop_ret, Qloop_pan,
    stepOp, ev, upd_apply, putF, cellsOf, deref, faddrV, mk, abin, abinI, abinS, ibits, aeqb, aun, fldV, idxOf, elems, isPtr, putRef, splice, fillA, rowsA, minV, peqV, elemsA, rowBytes, strOf, Store.get_push, Store.get_set, Store.n_push, Store.n_set,
    Option.map_some, Option.map_none, reduceIte, Nat.reduceEqDiff, Nat.reduceAdd, Nat.reduceLeDiff, Nat.reduceLT, Nat.zero_add, Nat.add_zero, Nat.add_assoc, Nat.add_left_cancel_iff, Nat.left_eq_add, Nat.add_eq_left, Nat.lt_irrefl, Nat.le_refl,
    List.drop_zero, List.drop_succ_cons, List.take_succ_cons, List.take_zero, List.headD_cons, List.length_cons, List.length_nil, List.getElem?_cons_zero, List.getElem?_cons_succ, List.set_cons_zero, List.set_cons_succ, List.map_cons, List.map_nil,
    Bool.not_true, Bool.not_false, Bool.false_eq_true, Bool.true_eq_false, Bool.not_eq_true', Bool.not_eq_false', eq_self, false_imp_iff, true_imp_iff, and_true, true_and, and_false, false_and, or_true, true_or, initFr, fr0_at, Qend, resL, resV1, pack,
    decide_eq_true_eq, decide_eq_false_iff_not, Int.toNat_natCast, Option.some.injEq, exists_eq_left', vcCond_T, vcCond_F]
      intro hlen
      rw [manySs_stop _ _ hc] at hd
      exact ⟨by rw [hd], hS⟩
  · have hlt' : ¬ (i : Int) < e.kids.length := by omega
    have hi : i = e.kids.length := by omega
    simp -implicitDefEqProofs only [f1, f3, f4, hget, hlt', encEs_take, encEs_length, decide_false, vc_region, vc_quiet, vcD_nil, vcD_val, vcD_eff, vcD_guard, vcDOut, vcDEff, vcDGuard, saysAll, pendAll, pendNext, addPend, Says, vc_bad, vc_seq, vc_ret, vc_skip, vc_cond, vcCond, vc_block, vc_exit, vcGrps_nil, vcGrps_cons, vcGrps_guard, vcGuard, vcOps_nil, vcOps_cons, vcOut, KCall_ret, KCall_pan, skipF_nil, skipF_cons, Qseq_normal, Qseq_ret, Qseq_exit, Qseq_pan, Qblk_normal, Qblk_exit, Qblk_ret, Qblk_pan, Qpan_eq, Qcut_normal, Qcut_exit, Qcut_ret, Qcut_pan, Qloop_normal, Qloop_exit, Qloop_ret, Qloop_pan,
    stepOp, ev, upd_apply, putF, cellsOf, deref, faddrV, mk, abin, abinI, abinS, ibits, aeqb, aun, fldV, idxOf, elems, isPtr, putRef, splice, fillA, rowsA, minV, peqV, elemsA, rowBytes, strOf, Store.get_push, Store.get_set, Store.n_push, Store.n_set,
    Option.map_some, Option.map_none, reduceIte, Nat.reduceEqDiff, Nat.reduceAdd, Nat.reduceLeDiff, Nat.reduceLT, Nat.zero_add, Nat.add_zero, Nat.add_assoc, Nat.add_left_cancel_iff, Nat.left_eq_add, Nat.add_eq_left, Nat.lt_irrefl, Nat.le_refl,
    List.drop_zero, List.drop_succ_cons, List.take_succ_cons, List.take_zero, List.headD_cons, List.length_cons, List.length_nil, List.getElem?_cons_zero, List.getElem?_cons_succ, List.set_cons_zero, List.set_cons_succ, List.map_cons, List.map_nil,
    Bool.not_true, Bool.not_false, Bool.false_eq_true, Bool.true_eq_false, Bool.not_eq_true', Bool.not_eq_false', eq_self, false_imp_iff, true_imp_iff, and_true, true_and, and_false, false_and, or_true, true_or, initFr, fr0_at, Qend, resL, resV1, pack,
    decide_eq_true_eq, decide_eq_false_iff_not, Int.toNat_natCast, Option.some.injEq, exists_eq_left', vcCond_T, vcCond_F]
    rw [hi, List.drop_length] at hd
    intro _
    simp only [manySs] at hd
    exact ⟨by rw [hd], hS⟩
end Go.Proofs.Ytmlllckecalaaaa.Eng

namespace Go.Proofs.Ytmlllckecalaaaa.Eng
open Go Go.Proofs.Try

theorem minV_nat (a b : Nat) : (if (b : Int) < a then (b : Int) else a) = ((min a b : Nat) : Int) := by split <;> omega
theorem minV_k (a : Nat) : (if (65537 : Int) < a then (65537 : Int) else a) = ((min a 65537 : Nat) : Int) := by split <;> omega

theorem c46 : ∀ (e : Elem), okE e → Pure prog 46 [.agg (encE e)] (.int .i64 (sizeS e)) := by
  intro e
  induction e using Elem.ind with
  | h e ih =>
  intro hok
  obtain ⟨_, _, hbl, hkl, hks⟩ := okE_eta hok
  unfold maxB at hbl hkl
  refine Pure.of (fun _ _ => by simp only [nm]) fun S => acalls_of_vc low46 (by simp) ?_
  rw [encE_eta, sizeS_eta]
  have hx := (Ext.refl S).push
  simp -implicitDefEqProofs only [B46, encEs_take, encEs_length, vc_region, vc_quiet, vcD_nil, vcD_val, vcD_eff, vcD_guard, vcDOut, vcDEff, vcDGuard, saysAll, pendAll, pendNext, addPend, Says, vc_bad, vc_seq, vc_ret, vc_skip, vc_cond, vcCond, vc_block, vc_exit, vcGrps_nil, vcGrps_cons, vcGrps_guard, vcGuard, vcOps_nil, vcOps_cons, vcOut, KCall_ret, KCall_pan, skipF_nil, skipF_cons, Qseq_normal, Qseq_ret, Qseq_exit, Qseq_pan, Qblk_normal, Qblk_exit, Qblk_ret, Qblk_pan, Qpan_eq, Qcut_normal, Qcut_exit, Qcut_ret, Qcut_pan, Qloop_normal, Qloop_exit, Qloop_ret, Qloop_pan,
    stepOp, ev, upd_apply, putF, cellsOf, deref, faddrV, mk, abin, abinI, abinS, ibits, aeqb, aun, fldV, idxOf, elems, isPtr, putRef, splice, fillA, rowsA, minV, peqV, elemsA, rowBytes, strOf, Store.get_push, Store.get_set, Store.n_push, Store.n_set,
    Option.map_some, Option.map_none, reduceIte, Nat.reduceEqDiff, Nat.reduceAdd, Nat.reduceLeDiff, Nat.reduceLT, Nat.zero_add, Nat.add_zero, Nat.add_assoc, Nat.add_left_cancel_iff, Nat.left_eq_add, Nat.add_eq_left, Nat.lt_irrefl, Nat.le_refl,
    List.drop_zero, List.drop_succ_cons, List.take_succ_cons, List.take_zero, List.headD_cons, List.length_cons, List.length_nil, List.getElem?_cons_zero, List.getElem?_cons_succ, List.set_cons_zero, List.set_cons_succ, List.map_cons, List.map_nil,
    Bool.not_true, Bool.not_false, Bool.false_eq_true, Bool.true_eq_false, Bool.not_eq_true', Bool.not_eq_false', eq_self, false_imp_iff, true_imp_iff, and_true, true_and, and_false, false_and, or_true, true_or, initFr, fr0_at, Qend, resL, resV1, pack,
    decide_eq_true_eq, decide_eq_false_iff_not, Int.toNat_natCast, Option.some.injEq, exists_eq_left', vcCond_T, vcCond_F]
  intro _ hlen
  refine vc_loop (fun n fr S' => ∃ i c, i + n = e.kids.length ∧ c ≤ maxB + 65537 ∧ fr 3 = .int .i64 (c : Nat) ∧ fr 10 = .sl 5 (encEs e.kids ++ e.ext) e.kids.length ∧ fr 11 = .int .i64 e.kids.length ∧ fr 12 = .int .i64 i ∧ Ext S S' ∧ sizeSs (e.kids.take i) e.bytes.length = c) e.kids.length
    ⟨0, e.bytes.length, by simp, by unfold maxB; omega, rfl, rfl, rfl, rfl, hx _, rfl⟩ ?_
  rintro n fr S' ⟨i, c, hin, hcb, f3, f10, f11, f12, hS, hd⟩
  unfold maxB at hcb
  by_cases hlt : i < e.kids.length
  · obtain ⟨k, hk⟩ : ∃ k, e.kids[i]? = some k := ⟨_, List.getElem?_eq_getElem hlt⟩
    have hkm : k ∈ e.kids := List.mem_of_getElem? hk
    have hat := encEs_at e.kids e.ext i k hk
    have h0 : (0 : Int) ≤ i := by omega
    have hlt' : (i : Int) < e.kids.length := by omega
    unfold lenMax at hlen
    have hsz := sizeS_le k
    have hi1 : IntKind.i64.wrap ((i : Int) + 1) = i + 1 := w64 _ (by omega) (by omega)
    have hs1 : IntKind.i64.wrap ((c : Int) + (sizeS k : Nat)) = ((c + sizeS k : Nat) : Int) := by rw [w64 _ (by omega) (by omega)]; push_cast; rfl
    simp -implicitDefEqProofs only [f3, f10, f11, f12, hlt, hlt', h0, hat, hi1, encE_length, encE_take5, splice_encE, decide_true, vc_region, vc_quiet, vcD_nil, vcD_val, vcD_eff, vcD_guard, vcDOut, vcDEff, vcDGuard, saysAll, pendAll, pendNext, addPend, Says, vc_bad, vc_seq, vc_ret, vc_skip, vc_cond, vcCond, vc_block, vc_exit, vcGrps_nil, vcGrps_cons, vcGrps_guard, vcGuard, vcOps_nil, vcOps_cons, vcOut, KCall_ret, KCall_pan, skipF_nil, skipF_cons, Qseq_normal, Qseq_ret, Qseq_exit, Qseq_pan, Qblk_normal, Qblk_exit, Qblk_ret, Qblk_pan, Qpan_eq, Qcut_normal, Qcut_exit, Qcut_ret, Qcut_pan, Qloop_normal, Qloop_exit, Qloop_ret, Qloop_pan,
    stepOp, ev, upd_apply, putF, cellsOf, deref, faddrV, mk, abin, abinI, abinS, ibits, aeqb, aun, fldV, idxOf, elems, isPtr, putRef, splice, fillA, rowsA, minV, peqV, elemsA, rowBytes, strOf, Store.get_push, Store.get_set, Store.n_push, Store.n_set,
    Option.map_some, Option.map_none, reduceIte, Nat.reduceEqDiff, Nat.reduceAdd, Nat.reduceLeDiff, Nat.reduceLT, Nat.zero_add, Nat.add_zero, Nat.add_assoc, Nat.add_left_cancel_iff, Nat.left_eq_add, Nat.add_eq_left, Nat.lt_irrefl, Nat.le_refl,
    List.drop_zero, List.drop_succ_cons, List.take_succ_cons, List.take_zero, List.headD_cons, List.length_cons, List.length_nil, List.getElem?_cons_zero, List.getElem?_cons_succ, List.set_cons_zero, List.set_cons_succ, List.map_cons, List.map_nil,
    Bool.not_true, Bool.not_false, Bool.false_eq_true, Bool.true_eq_false, Bool.not_eq_true', Bool.not_eq_false', eq_self, false_imp_iff, true_imp_iff, and_true, true_and, and_false, false_and, or_true, true_or, initFr, fr0_at, Qend, resL, resV1, pack,
    decide_eq_true_eq, decide_eq_false_iff_not, Int.toNat_natCast, Option.some.injEq, exists_eq_left', vcCond_T, vcCond_F]
    refine (ih k hkm (hks k hkm)).use ?_
    simp -implicitDefEqProofs only [f3, f10, f11, f12, hi1, hs1, minV_k, vc_region, vc_quiet, vcD_nil, vcD_val, vcD_eff, vcD_guard, vcDOut, vcDEff, vcDGuard, saysAll, pendAll, pendNext, addPend, Says, vc_bad, vc_seq, vc_ret, vc_skip, vc_cond, vcCond, vc_block, vc_exit, vcGrps_nil, vcGrps_cons, vcGrps_guard, vcGuard, vcOps_nil, vcOps_cons, vcOut, KCall_ret, KCall_pan, skipF_nil, skipF_cons, Qseq_normal, Qseq_ret, Qseq_exit, Qseq_pan, Qblk_normal, Qblk_exit, Qblk_ret, Qblk_pan, Qpan_eq, Qcut_normal, Qcut_exit, Qcut_ret, Qcut_pan, Qloop_normal, Qloop_exit, Qloop_ret, Qloop_pan,
    stepOp, ev, upd_apply, putF, cellsOf, deref, faddrV, mk, abin, abinI, abinS, ibits, aeqb, aun, fldV, idxOf, elems, isPtr, putRef, splice, fillA, rowsA, minV, peqV, elemsA, rowBytes, strOf, Store.get_push, Store.get_set, Store.n_push, Store.n_set,
    Option.map_some, Option.map_none, reduceIte, Nat.reduceEqDiff, Nat.reduceAdd, Nat.reduceLeDiff, Nat.reduceLT, Nat.zero_add, Nat.add_zero, Nat.add_assoc, Nat.add_left_cancel_iff, Nat.left_eq_add, Nat.add_eq_left, Nat.lt_irrefl, Nat.le_refl,
    List.drop_zero, List.drop_succ_cons, List.take_succ_cons, List.take_zero, List.headD_cons, List.length_cons, List.length_nil, List.getElem?_cons_zero, List.getElem?_cons_succ, List.set_cons_zero, List.set_cons_succ, List.map_cons, List.map_nil,
    Bool.not_true, Bool.not_false, Bool.false_eq_true, Bool.true_eq_false, Bool.not_eq_true', Bool.not_eq_false', eq_self, false_imp_iff, true_imp_iff, and_true, true_and, and_false, false_and, or_true, true_or, initFr, fr0_at, Qend, resL, resV1, pack,
    decide_eq_true_eq, decide_eq_false_iff_not, Int.toNat_natCast, Option.some.injEq, exists_eq_left', vcCond_T, vcCond_F]
    refine ⟨n - 1, by omega, i + 1, min (c + sizeS k) 65537, by omega, by unfold maxB; omega, rfl, by simp, (hS.push _).set _ _ hS.n, ?_⟩
    rw [take_succ hk, sizeSs_app, hd]
  · have hlt' : ¬ (i : Int) < e.kids.length := by omega
    have hi : i = e.kids.length := by omega
    rw [hi, List.take_length] at hd
    simp -implicitDefEqProofs only [f3, f10, f11, f12, hlt', minV_k, decide_false, vc_region, vc_quiet, vcD_nil, vcD_val, vcD_eff, vcD_guard, vcDOut, vcDEff, vcDGuard, saysAll, pendAll, pendNext, addPend, Says, vc_bad, vc_seq, vc_ret, vc_skip, vc_cond, vcCond, vc_block, vc_exit, vcGrps_nil, vcGrps_cons, vcGrps_guard, vcGuard, vcOps_nil, vcOps_cons, vcOut, KCall_ret, KCall_pan, skipF_nil, skipF_cons, Qseq_normal, Qseq_ret, Qseq_exit, Qseq_pan, Qblk_normal, Qblk_exit, Qblk_ret, Qblk_pan, Qpan_eq, Qcut_normal, Qcut_exit, Qcut_ret, Qcut_pan, Qloop_normal, Qloop_exit, Qloop_ret, Qloop_pan,
    stepOp, ev, upd_apply, putF, cellsOf, deref, faddrV, mk, abin, abinI, abinS, ibits, aeqb, aun, fldV, idxOf, elems, isPtr, putRef, splice, fillA, rowsA, minV, peqV, elemsA, rowBytes, strOf, Store.get_push, Store.get_set, Store.n_push, Store.n_set,
    Option.map_some, Option.map_none, reduceIte, Nat.reduceEqDiff, Nat.reduceAdd, Nat.reduceLeDiff, Nat.reduceLT, Nat.zero_add, Nat.add_zero, Nat.add_assoc, Nat.add_left_cancel_iff, Nat.left_eq_add, Nat.add_eq_left, Nat.lt_irrefl, Nat.le_refl,
    List.drop_zero, List.drop_succ_cons, List.take_succ_cons, List.take_zero, List.headD_cons, List.length_cons, List.length_nil, List.getElem?_cons_zero, List.getElem?_cons_succ, List.set_cons_zero, List.set_cons_succ, List.map_cons, List.map_nil,
    Bool.not_true, Bool.not_false, Bool.false_eq_true, Bool.true_eq_false, Bool.not_eq_true', Bool.not_eq_false', eq_self, false_imp_iff, true_imp_iff, and_true, true_and, and_false, false_and, or_true, true_or, initFr, fr0_at, Qend, resL, resV1, pack,
    decide_eq_true_eq, decide_eq_false_iff_not, Int.toNat_natCast, Option.some.injEq, exists_eq_left', vcCond_T, vcCond_F]
    refine (c64 (min c 65537) (by omega)).use ?_
    have hll := lenS_length (min c 65537)
    have ha : IntKind.i64.wrap (1 + ((lenS (min c 65537)).length : Int)) = ((1 + (lenS (min c 65537)).length : Nat) : Int) := by rw [w64 _ (by omega) (by omega)]; push_cast; rfl
    have hb : IntKind.i64.wrap (((1 + (lenS (min c 65537)).length : Nat) : Int) + c) = ((1 + (lenS (min c 65537)).length + c : Nat) : Int) := by rw [w64 _ (by omega) (by omega)]; push_cast; rfl
    simp -implicitDefEqProofs only [f3, f10, f11, f12, ha, hb, minV_k, vc_region, vc_quiet, vcD_nil, vcD_val, vcD_eff, vcD_guard, vcDOut, vcDEff, vcDGuard, saysAll, pendAll, pendNext, addPend, Says, vc_bad, vc_seq, vc_ret, vc_skip, vc_cond, vcCond, vc_block, vc_exit, vcGrps_nil, vcGrps_cons, vcGrps_guard, vcGuard, vcOps_nil, vcOps_cons, vcOut, KCall_ret, KCall_pan, skipF_nil, skipF_cons, Qseq_normal, Qseq_ret, Qseq_exit, Qseq_pan, Qblk_normal, Qblk_exit, Qblk_ret, Qblk_pan, Qpan_eq, Qcut_normal, Qcut_exit, Qcut_ret, Qcut_pan, Qloop_normal, Qloop_exit, Qloop_ret, Qloop_pan,
    stepOp, ev, upd_apply, putF, cellsOf, deref, faddrV, mk, abin, abinI, abinS, ibits, aeqb, aun, fldV, idxOf, elems, isPtr, putRef, splice, fillA, rowsA, minV, peqV, elemsA, rowBytes, strOf, Store.get_push, Store.get_set, Store.n_push, Store.n_set,
    Option.map_some, Option.map_none, reduceIte, Nat.reduceEqDiff, Nat.reduceAdd, Nat.reduceLeDiff, Nat.reduceLT, Nat.zero_add, Nat.add_zero, Nat.add_assoc, Nat.add_left_cancel_iff, Nat.left_eq_add, Nat.add_eq_left, Nat.lt_irrefl, Nat.le_refl,
    List.drop_zero, List.drop_succ_cons, List.take_succ_cons, List.take_zero, List.headD_cons, List.length_cons, List.length_nil, List.getElem?_cons_zero, List.getElem?_cons_succ, List.set_cons_zero, List.set_cons_succ, List.map_cons, List.map_nil,
    Bool.not_true, Bool.not_false, Bool.false_eq_true, Bool.true_eq_false, Bool.not_eq_true', Bool.not_eq_false', eq_self, false_imp_iff, true_imp_iff, and_true, true_and, and_false, false_and, or_true, true_or, initFr, fr0_at, Qend, resL, resV1, pack,
    decide_eq_true_eq, decide_eq_false_iff_not, Int.toNat_natCast, Option.some.injEq, exists_eq_left', vcCond_T, vcCond_F]
    intro _
    exact ⟨by rw [hd], hS⟩
end Go.Proofs.Ytmlllckecalaaaa.Eng

namespace Go.Proofs.Ytmlllckecalaaaa.Eng
open Go Go.Proofs.Try

mutual
def allTag : Elem → Bool
  | .mk c t k b ks ext => tagOk (.mk c t k b ks ext) && allTags ks
def allTags : List Elem → Bool
  | [] => true
  | k :: ks => allTag k && allTags ks
end
theorem allTags_mem : ∀ (ks : List Elem), allTags ks = true → ∀ k ∈ ks, allTag k = true
  | [], _, k, h => by simp at h
  | x :: ks, h, k, hk => by
    simp only [allTags, Bool.and_eq_true] at h
    rcases List.mem_cons.1 hk with rfl | hk
    · exact h.1
    · exact allTags_mem ks h.2 k hk
theorem allTag_eta {e : Elem} (h : allTag e = true) : tagOk e = true ∧ ∀ k ∈ e.kids, allTag k = true := by
  cases e; simp only [allTag, Bool.and_eq_true, Elem.kids] at h ⊢
  exact ⟨h.1, allTags_mem _ h.2⟩

theorem or_first : ∀ (c : Fin 4) (t : Fin 31), IntKind.i64.wrap ((c.val : Int) * 2 ^ min (6 : Int).toNat IntKind.i64.bits) = 64 * c.val ∧
    IntKind.i64.wrap ((BitVec.ofInt IntKind.i64.bits (64 * c.val) ||| BitVec.ofInt IntKind.i64.bits t.val).toNat : Int) = ((64 * c.val + t.val : Nat) : Int) ∧
    IntKind.i64.wrap ((BitVec.ofInt IntKind.i64.bits ((64 * c.val + t.val : Nat) : Int) ||| BitVec.ofInt IntKind.i64.bits 32).toNat : Int) = ((64 * c.val + t.val + 32 : Nat) : Int) := by decide

theorem c47 : ∀ (e : Elem), okE e → allTag e = true → sizeS e ≤ 65536 → ∀ (m : Nat) (S : Store) (l : Nat) (bs : List UInt8), BS m S l bs → m ≤ S.n → bs.length + sizeS e ≤ 1048576 →
    ACalls prog 47 [.ptr l 0, .agg (encE e)] S fun r S' => r = .ret (.tup []) ∧ BS m S' l (bs ++ putS e) ∧ Low m l S S' := by
  intro e
  induction e using Elem.ind with
  | h e ih =>
  intro hok htag hsize m S l bs hbs hm hbl
  obtain ⟨_, _, hbl', hkl, hks⟩ := okE_eta hok
  obtain ⟨htag, htags⟩ := allTag_eta htag
  obtain ⟨hsum, hsk, hcl⟩ := sizeS_sum e hsize
  unfold maxB at hbl' hkl
  have hfirst : ∃ c t : Nat, e.cls = c ∧ e.tag = t ∧ c < 4 ∧ t < 31 := by
    simp only [tagOk, decide_eq_true_eq] at htag
    exact ⟨e.cls.toNat, e.tag.toNat, by omega, by omega, by omega, by omega⟩
  obtain ⟨c, t, hc, ht, hc4, ht31⟩ := hfirst
  obtain ⟨o1, o2, o3⟩ := or_first ⟨c, hc4⟩ ⟨t, ht31⟩
  simp only at o1 o2 o3
  refine ACalls.wf fun hwf _ => acalls_of_vc low47 (by simp) ?_
  have hlS : l < S.n := hbs.2.1
  have hln : l ≠ S.n := by omega
  have h06 : ¬ ((6 : Int) < 0) := by decide
  have hff : firstS e = UInt8.ofNat (64 * c + t + if e.cons then 32 else 0) := by unfold firstS; rw [hc, ht]; simp
  rw [putS_eta, encE_eta, hc, ht]
  have hbox : ∀ (x : AV), (S.push (.box 24 [.int .i64 c, .int .i64 t, x, .str e.bytes, .sl 5 (encEs e.kids ++ e.ext) e.kids.length])).get S.n = some (.box 24 [.int .i64 c, .int .i64 t, x, .str e.bytes, .sl 5 (encEs e.kids ++ e.ext) e.kids.length]) := fun x => Store.get_push_same _ _
  cases hcons : e.cons
  all_goals
    simp -implicitDefEqProofs only [B47, ashift, o1, o2, o3, h06, encEs_take, encEs_length, vc_region, vc_quiet, vcD_nil, vcD_val, vcD_eff, vcD_guard, vcDOut, vcDEff, vcDGuard, saysAll, pendAll, pendNext, addPend, Says, vc_bad, vc_seq, vc_ret, vc_skip, vc_cond, vcCond, vc_block, vc_exit, vcGrps_nil, vcGrps_cons, vcGrps_guard, vcGuard, vcOps_nil, vcOps_cons, vcOut, KCall_ret, KCall_pan, skipF_nil, skipF_cons, Qseq_normal, Qseq_ret, Qseq_exit, Qseq_pan, Qblk_normal, Qblk_exit, Qblk_ret, Qblk_pan, Qpan_eq, Qcut_normal, Qcut_exit, Qcut_ret, Qcut_pan, Qloop_normal, Qloop_exit, Qloop_ret, Qloop_pan,
    stepOp, ev, upd_apply, putF, cellsOf, deref, faddrV, mk, abin, abinI, abinS, ibits, aeqb, aun, fldV, idxOf, elems, isPtr, putRef, splice, fillA, rowsA, minV, peqV, elemsA, rowBytes, strOf, Store.get_push, Store.get_set, Store.n_push, Store.n_set,
    Option.map_some, Option.map_none, reduceIte, Nat.reduceEqDiff, Nat.reduceAdd, Nat.reduceLeDiff, Nat.reduceLT, Nat.zero_add, Nat.add_zero, Nat.add_assoc, Nat.add_left_cancel_iff, Nat.left_eq_add, Nat.add_eq_left, Nat.lt_irrefl, Nat.le_refl,
    List.drop_zero, List.drop_succ_cons, List.take_succ_cons, List.take_zero, List.headD_cons, List.length_cons, List.length_nil, List.getElem?_cons_zero, List.getElem?_cons_succ, List.set_cons_zero, List.set_cons_succ, List.map_cons, List.map_nil,
    Bool.not_true, Bool.not_false, Bool.false_eq_true, Bool.true_eq_false, Bool.not_eq_true', Bool.not_eq_false', eq_self, false_imp_iff, true_imp_iff, and_true, true_and, and_false, false_and, or_true, true_or, initFr, fr0_at, Qend, resL, resV1, pack,
    decide_eq_true_eq, decide_eq_false_iff_not, Int.toNat_natCast, Option.some.injEq, exists_eq_left', vcCond_T, vcCond_F]
    intro _ hlen
    unfold lenMax at hlen
    refine vc_loop (fun n fr S' => ∃ i f, i + n = e.kids.length ∧ UInt8.ofNat f = firstS e ∧ fr 0 = .ptr l 0 ∧ fr 3 = .ptr S.n 0 ∧ fr 4 = .int .i64 (f : Nat) ∧ fr 5 = .int .i64 ((e.bytes.length + sumS (e.kids.take i) : Nat) : Int) ∧
      fr 24 = .sl 5 (encEs e.kids ++ e.ext) e.kids.length ∧ fr 25 = .int .i64 e.kids.length ∧ fr 26 = .int .i64 i ∧
      (∃ x, S'.get S.n = some (.box 24 [.int .i64 c, .int .i64 t, x, .str e.bytes, .sl 5 (encEs e.kids ++ e.ext) e.kids.length])) ∧ Ext S S' ∧ S.n < S'.n ∧ ∀ j o, S'.get j = some o → (∃ o', S.get j = some o') ∨ j < S'.n) e.kids.length
      ⟨0, 64 * c + t + (if e.cons then 32 else 0), by simp, by rw [hff], rfl, rfl, by simp [upd_apply, hcons] <;> omega, by simp [upd_apply, sumS], rfl, rfl, rfl, ⟨_, hbox _⟩, (Ext.refl S).push _, by rw [Store.n_push]; omega, fun j o h => by
        rw [Store.get_push] at h
        by_cases ej : j = S.n
        · subst ej; exact .inr (by rw [Store.n_push]; omega)
        · rw [if_neg ej] at h; exact .inl ⟨o, h⟩⟩ ?_
    rintro n fr S' ⟨i, f, hin, hf, f0, f3, f4, f5, f24, f25, f26, ⟨x, hx⟩, hS, hSn, hSb⟩
    by_cases hlt : i < e.kids.length
    · obtain ⟨k, hk⟩ : ∃ k, e.kids[i]? = some k := ⟨_, List.getElem?_eq_getElem hlt⟩
      have hkm : k ∈ e.kids := List.mem_of_getElem? hk
      have hat := encEs_at e.kids e.ext i k hk
      have h0 : (0 : Int) ≤ i := by omega
      have hlt' : (i : Int) < e.kids.length := by omega
      have hi1 : IntKind.i64.wrap ((i : Int) + 1) = i + 1 := w64 _ (by omega) (by omega)
      have hsz := sizeS_le k
      have hst := sumS_take e.kids i
      have hs1 : IntKind.i64.wrap (((e.bytes.length + sumS (e.kids.take i) : Nat) : Int) + (sizeS k : Nat)) = ((e.bytes.length + sumS (e.kids.take i) + sizeS k : Nat) : Int) := by rw [w64 _ (by omega) (by omega)]; push_cast; rfl
      simp -implicitDefEqProofs only [f0, f3, f4, f5, f24, f25, f26, hlt, hlt', h0, hat, hi1, encE_length, encE_take5, splice_encE, decide_true, vc_region, vc_quiet, vcD_nil, vcD_val, vcD_eff, vcD_guard, vcDOut, vcDEff, vcDGuard, saysAll, pendAll, pendNext, addPend, Says, vc_bad, vc_seq, vc_ret, vc_skip, vc_cond, vcCond, vc_block, vc_exit, vcGrps_nil, vcGrps_cons, vcGrps_guard, vcGuard, vcOps_nil, vcOps_cons, vcOut, KCall_ret, KCall_pan, skipF_nil, skipF_cons, Qseq_normal, Qseq_ret, Qseq_exit, Qseq_pan, Qblk_normal, Qblk_exit, Qblk_ret, Qblk_pan, Qpan_eq, Qcut_normal, Qcut_exit, Qcut_ret, Qcut_pan, Qloop_normal, Qloop_exit, Qloop_ret, Qloop_pan,
    stepOp, ev, upd_apply, putF, cellsOf, deref, faddrV, mk, abin, abinI, abinS, ibits, aeqb, aun, fldV, idxOf, elems, isPtr, putRef, splice, fillA, rowsA, minV, peqV, elemsA, rowBytes, strOf, Store.get_push, Store.get_set, Store.n_push, Store.n_set,
    Option.map_some, Option.map_none, reduceIte, Nat.reduceEqDiff, Nat.reduceAdd, Nat.reduceLeDiff, Nat.reduceLT, Nat.zero_add, Nat.add_zero, Nat.add_assoc, Nat.add_left_cancel_iff, Nat.left_eq_add, Nat.add_eq_left, Nat.lt_irrefl, Nat.le_refl,
    List.drop_zero, List.drop_succ_cons, List.take_succ_cons, List.take_zero, List.headD_cons, List.length_cons, List.length_nil, List.getElem?_cons_zero, List.getElem?_cons_succ, List.set_cons_zero, List.set_cons_succ, List.map_cons, List.map_nil,
    Bool.not_true, Bool.not_false, Bool.false_eq_true, Bool.true_eq_false, Bool.not_eq_true', Bool.not_eq_false', eq_self, false_imp_iff, true_imp_iff, and_true, true_and, and_false, false_and, or_true, true_or, initFr, fr0_at, Qend, resL, resV1, pack,
    decide_eq_true_eq, decide_eq_false_iff_not, Int.toNat_natCast, Option.some.injEq, exists_eq_left', vcCond_T, vcCond_F]
      refine (c46 k (hks k hkm)).use ?_
      have hne2 : ¬ S.n = S'.n := by omega
      simp -implicitDefEqProofs only [f0, f3, f4, f5, f24, f25, f26, hi1, hs1, hne2, vc_region, vc_quiet, vcD_nil, vcD_val, vcD_eff, vcD_guard, vcDOut, vcDEff, vcDGuard, saysAll, pendAll, pendNext, addPend, Says, vc_bad, vc_seq, vc_ret, vc_skip, vc_cond, vcCond, vc_block, vc_exit, vcGrps_nil, vcGrps_cons, vcGrps_guard, vcGuard, vcOps_nil, vcOps_cons, vcOut, KCall_ret, KCall_pan, skipF_nil, skipF_cons, Qseq_normal, Qseq_ret, Qseq_exit, Qseq_pan, Qblk_normal, Qblk_exit, Qblk_ret, Qblk_pan, Qpan_eq, Qcut_normal, Qcut_exit, Qcut_ret, Qcut_pan, Qloop_normal, Qloop_exit, Qloop_ret, Qloop_pan,
    stepOp, ev, upd_apply, putF, cellsOf, deref, faddrV, mk, abin, abinI, abinS, ibits, aeqb, aun, fldV, idxOf, elems, isPtr, putRef, splice, fillA, rowsA, minV, peqV, elemsA, rowBytes, strOf, Store.get_push, Store.get_set, Store.n_push, Store.n_set,
    Option.map_some, Option.map_none, reduceIte, Nat.reduceEqDiff, Nat.reduceAdd, Nat.reduceLeDiff, Nat.reduceLT, Nat.zero_add, Nat.add_zero, Nat.add_assoc, Nat.add_left_cancel_iff, Nat.left_eq_add, Nat.add_eq_left, Nat.lt_irrefl, Nat.le_refl,
    List.drop_zero, List.drop_succ_cons, List.take_succ_cons, List.take_zero, List.headD_cons, List.length_cons, List.length_nil, List.getElem?_cons_zero, List.getElem?_cons_succ, List.set_cons_zero, List.set_cons_succ, List.map_cons, List.map_nil,
    Bool.not_true, Bool.not_false, Bool.false_eq_true, Bool.true_eq_false, Bool.not_eq_true', Bool.not_eq_false', eq_self, false_imp_iff, true_imp_iff, and_true, true_and, and_false, false_and, or_true, true_or, initFr, fr0_at, Qend, resL, resV1, pack,
    decide_eq_true_eq, decide_eq_false_iff_not, Int.toNat_natCast, Option.some.injEq, exists_eq_left', vcCond_T, vcCond_F]
      exact ⟨n - 1, by omega, i + 1, f, by omega, hf, rfl, by rw [take_succ hk, sumS_app], by simp, ⟨x, hx⟩, (hS.push _).set _ _ hS.n, by omega, fun j o h => by
        by_cases ej : j = S'.n
        · subst ej; exact .inr (by simp)
        · simp only [ej, if_false] at h
          rcases hSb j o h with h' | h'
          · exact .inl h'
          · exact .inr (by omega)⟩
    · have hlt' : ¬ (i : Int) < e.kids.length := by omega
      have hi : i = e.kids.length := by omega
      rw [hi, List.take_length] at f5
      simp -implicitDefEqProofs only [f0, f3, f4, f5, f24, f25, f26, hlt', w8, decide_false, vc_region, vc_quiet, vcD_nil, vcD_val, vcD_eff, vcD_guard, vcDOut, vcDEff, vcDGuard, saysAll, pendAll, pendNext, addPend, Says, vc_bad, vc_seq, vc_ret, vc_skip, vc_cond, vcCond, vc_block, vc_exit, vcGrps_nil, vcGrps_cons, vcGrps_guard, vcGuard, vcOps_nil, vcOps_cons, vcOut, KCall_ret, KCall_pan, skipF_nil, skipF_cons, Qseq_normal, Qseq_ret, Qseq_exit, Qseq_pan, Qblk_normal, Qblk_exit, Qblk_ret, Qblk_pan, Qpan_eq, Qcut_normal, Qcut_exit, Qcut_ret, Qcut_pan, Qloop_normal, Qloop_exit, Qloop_ret, Qloop_pan,
    stepOp, ev, upd_apply, putF, cellsOf, deref, faddrV, mk, abin, abinI, abinS, ibits, aeqb, aun, fldV, idxOf, elems, isPtr, putRef, splice, fillA, rowsA, minV, peqV, elemsA, rowBytes, strOf, Store.get_push, Store.get_set, Store.n_push, Store.n_set,
    Option.map_some, Option.map_none, reduceIte, Nat.reduceEqDiff, Nat.reduceAdd, Nat.reduceLeDiff, Nat.reduceLT, Nat.zero_add, Nat.add_zero, Nat.add_assoc, Nat.add_left_cancel_iff, Nat.left_eq_add, Nat.add_eq_left, Nat.lt_irrefl, Nat.le_refl,
    List.drop_zero, List.drop_succ_cons, List.take_succ_cons, List.take_zero, List.headD_cons, List.length_cons, List.length_nil, List.getElem?_cons_zero, List.getElem?_cons_succ, List.set_cons_zero, List.set_cons_succ, List.map_cons, List.map_nil,
    Bool.not_true, Bool.not_false, Bool.false_eq_true, Bool.true_eq_false, Bool.not_eq_true', Bool.not_eq_false', eq_self, false_imp_iff, true_imp_iff, and_true, true_and, and_false, false_and, or_true, true_or, initFr, fr0_at, Qend, resL, resV1, pack,
    decide_eq_true_eq, decide_eq_false_iff_not, Int.toNat_natCast, Option.some.injEq, exists_eq_left', vcCond_T, vcCond_F]
      have hS1 : Low m l S S' := ⟨hS.n, fun j hj _ => hS.get j (by omega), fun j t cs _ h => by rw [hS.get j (hwf j _ h).1]; exact h, hSb⟩
      have hbs1 : BS m S' l bs := hbs.grow hS.n hS.get
      rw [hf]
      refine (c65 m S' l bs (firstS e) hbs1 (by omega) (by omega)).mono ?_
      rintro r S2 ⟨⟨y, rfl⟩, hbs2, hL2⟩
      simp -implicitDefEqProofs only [f0, f3, f4, f5, f24, f25, f26, vc_region, vc_quiet, vcD_nil, vcD_val, vcD_eff, vcD_guard, vcDOut, vcDEff, vcDGuard, saysAll, pendAll, pendNext, addPend, Says, vc_bad, vc_seq, vc_ret, vc_skip, vc_cond, vcCond, vc_block, vc_exit, vcGrps_nil, vcGrps_cons, vcGrps_guard, vcGuard, vcOps_nil, vcOps_cons, vcOut, KCall_ret, KCall_pan, skipF_nil, skipF_cons, Qseq_normal, Qseq_ret, Qseq_exit, Qseq_pan, Qblk_normal, Qblk_exit, Qblk_ret, Qblk_pan, Qpan_eq, Qcut_normal, Qcut_exit, Qcut_ret, Qcut_pan, Qloop_normal, Qloop_exit, Qloop_ret, Qloop_pan,
    stepOp, ev, upd_apply, putF, cellsOf, deref, faddrV, mk, abin, abinI, abinS, ibits, aeqb, aun, fldV, idxOf, elems, isPtr, putRef, splice, fillA, rowsA, minV, peqV, elemsA, rowBytes, strOf, Store.get_push, Store.get_set, Store.n_push, Store.n_set,
    Option.map_some, Option.map_none, reduceIte, Nat.reduceEqDiff, Nat.reduceAdd, Nat.reduceLeDiff, Nat.reduceLT, Nat.zero_add, Nat.add_zero, Nat.add_assoc, Nat.add_left_cancel_iff, Nat.left_eq_add, Nat.add_eq_left, Nat.lt_irrefl, Nat.le_refl,
    List.drop_zero, List.drop_succ_cons, List.take_succ_cons, List.take_zero, List.headD_cons, List.length_cons, List.length_nil, List.getElem?_cons_zero, List.getElem?_cons_succ, List.set_cons_zero, List.set_cons_succ, List.map_cons, List.map_nil,
    Bool.not_true, Bool.not_false, Bool.false_eq_true, Bool.true_eq_false, Bool.not_eq_true', Bool.not_eq_false', eq_self, false_imp_iff, true_imp_iff, and_true, true_and, and_false, false_and, or_true, true_or, initFr, fr0_at, Qend, resL, resV1, pack,
    decide_eq_true_eq, decide_eq_false_iff_not, Int.toNat_natCast, Option.some.injEq, exists_eq_left', vcCond_T, vcCond_F]
      refine (c64 (e.bytes.length + sumS e.kids) (by omega)).use ?_
      simp -implicitDefEqProofs only [f0, f3, f4, f5, f24, f25, f26, vc_region, vc_quiet, vcD_nil, vcD_val, vcD_eff, vcD_guard, vcDOut, vcDEff, vcDGuard, saysAll, pendAll, pendNext, addPend, Says, vc_bad, vc_seq, vc_ret, vc_skip, vc_cond, vcCond, vc_block, vc_exit, vcGrps_nil, vcGrps_cons, vcGrps_guard, vcGuard, vcOps_nil, vcOps_cons, vcOut, KCall_ret, KCall_pan, skipF_nil, skipF_cons, Qseq_normal, Qseq_ret, Qseq_exit, Qseq_pan, Qblk_normal, Qblk_exit, Qblk_ret, Qblk_pan, Qpan_eq, Qcut_normal, Qcut_exit, Qcut_ret, Qcut_pan, Qloop_normal, Qloop_exit, Qloop_ret, Qloop_pan,
    stepOp, ev, upd_apply, putF, cellsOf, deref, faddrV, mk, abin, abinI, abinS, ibits, aeqb, aun, fldV, idxOf, elems, isPtr, putRef, splice, fillA, rowsA, minV, peqV, elemsA, rowBytes, strOf, Store.get_push, Store.get_set, Store.n_push, Store.n_set,
    Option.map_some, Option.map_none, reduceIte, Nat.reduceEqDiff, Nat.reduceAdd, Nat.reduceLeDiff, Nat.reduceLT, Nat.zero_add, Nat.add_zero, Nat.add_assoc, Nat.add_left_cancel_iff, Nat.left_eq_add, Nat.add_eq_left, Nat.lt_irrefl, Nat.le_refl,
    List.drop_zero, List.drop_succ_cons, List.take_succ_cons, List.take_zero, List.headD_cons, List.length_cons, List.length_nil, List.getElem?_cons_zero, List.getElem?_cons_succ, List.set_cons_zero, List.set_cons_succ, List.map_cons, List.map_nil,
    Bool.not_true, Bool.not_false, Bool.false_eq_true, Bool.true_eq_false, Bool.not_eq_true', Bool.not_eq_false', eq_self, false_imp_iff, true_imp_iff, and_true, true_and, and_false, false_and, or_true, true_or, initFr, fr0_at, Qend, resL, resV1, pack,
    decide_eq_true_eq, decide_eq_false_iff_not, Int.toNat_natCast, Option.some.injEq, exists_eq_left', vcCond_T, vcCond_F]
      refine (c66 m S2 l _ (lenS (e.bytes.length + sumS e.kids)) hbs2 (by have := hL2.n; omega) (by simp only [List.length_append, List.length_cons, List.length_nil]; omega)).mono ?_
      rintro r S3 ⟨⟨y, rfl⟩, hbs3, hL3⟩
      have hx3 := hL3.box _ _ _ (Ne.symm hln) (hL2.box _ _ _ (Ne.symm hln) hx)
      simp -implicitDefEqProofs only [f0, f3, f4, f5, f24, f25, f26, hx3, vc_region, vc_quiet, vcD_nil, vcD_val, vcD_eff, vcD_guard, vcDOut, vcDEff, vcDGuard, saysAll, pendAll, pendNext, addPend, Says, vc_bad, vc_seq, vc_ret, vc_skip, vc_cond, vcCond, vc_block, vc_exit, vcGrps_nil, vcGrps_cons, vcGrps_guard, vcGuard, vcOps_nil, vcOps_cons, vcOut, KCall_ret, KCall_pan, skipF_nil, skipF_cons, Qseq_normal, Qseq_ret, Qseq_exit, Qseq_pan, Qblk_normal, Qblk_exit, Qblk_ret, Qblk_pan, Qpan_eq, Qcut_normal, Qcut_exit, Qcut_ret, Qcut_pan, Qloop_normal, Qloop_exit, Qloop_ret, Qloop_pan,
    stepOp, ev, upd_apply, putF, cellsOf, deref, faddrV, mk, abin, abinI, abinS, ibits, aeqb, aun, fldV, idxOf, elems, isPtr, putRef, splice, fillA, rowsA, minV, peqV, elemsA, rowBytes, strOf, Store.get_push, Store.get_set, Store.n_push, Store.n_set,
    Option.map_some, Option.map_none, reduceIte, Nat.reduceEqDiff, Nat.reduceAdd, Nat.reduceLeDiff, Nat.reduceLT, Nat.zero_add, Nat.add_zero, Nat.add_assoc, Nat.add_left_cancel_iff, Nat.left_eq_add, Nat.add_eq_left, Nat.lt_irrefl, Nat.le_refl,
    List.drop_zero, List.drop_succ_cons, List.take_succ_cons, List.take_zero, List.headD_cons, List.length_cons, List.length_nil, List.getElem?_cons_zero, List.getElem?_cons_succ, List.set_cons_zero, List.set_cons_succ, List.map_cons, List.map_nil,
    Bool.not_true, Bool.not_false, Bool.false_eq_true, Bool.true_eq_false, Bool.not_eq_true', Bool.not_eq_false', eq_self, false_imp_iff, true_imp_iff, and_true, true_and, and_false, false_and, or_true, true_or, initFr, fr0_at, Qend, resL, resV1, pack,
    decide_eq_true_eq, decide_eq_false_iff_not, Int.toNat_natCast, Option.some.injEq, exists_eq_left', vcCond_T, vcCond_F]
      refine (c66 m S3 l _ e.bytes hbs3 (by have := hL2.n; have := hL3.n; omega) (by simp only [List.length_append, List.length_cons, List.length_nil]; omega)).mono ?_
      rintro r S4 ⟨⟨y, rfl⟩, hbs4, hL4⟩
      have hx4 := hL4.box _ _ _ (Ne.symm hln) hx3
      simp -implicitDefEqProofs only [f0, f3, f4, f5, f24, f25, f26, hx4, encEs_take, encEs_length, vc_region, vc_quiet, vcD_nil, vcD_val, vcD_eff, vcD_guard, vcDOut, vcDEff, vcDGuard, saysAll, pendAll, pendNext, addPend, Says, vc_bad, vc_seq, vc_ret, vc_skip, vc_cond, vcCond, vc_block, vc_exit, vcGrps_nil, vcGrps_cons, vcGrps_guard, vcGuard, vcOps_nil, vcOps_cons, vcOut, KCall_ret, KCall_pan, skipF_nil, skipF_cons, Qseq_normal, Qseq_ret, Qseq_exit, Qseq_pan, Qblk_normal, Qblk_exit, Qblk_ret, Qblk_pan, Qpan_eq, Qcut_normal, Qcut_exit, Qcut_ret, Qcut_pan, Qloop_normal, Qloop_exit, Qloop_ret, Qloop_pan,
    stepOp, ev, upd_apply, putF, cellsOf, deref, faddrV, mk, abin, abinI, abinS, ibits, aeqb, aun, fldV, idxOf, elems, isPtr, putRef, splice, fillA, rowsA, minV, peqV, elemsA, rowBytes, strOf, Store.get_push, Store.get_set, Store.n_push, Store.n_set,
    Option.map_some, Option.map_none, reduceIte, Nat.reduceEqDiff, Nat.reduceAdd, Nat.reduceLeDiff, Nat.reduceLT, Nat.zero_add, Nat.add_zero, Nat.add_assoc, Nat.add_left_cancel_iff, Nat.left_eq_add, Nat.add_eq_left, Nat.lt_irrefl, Nat.le_refl,
    List.drop_zero, List.drop_succ_cons, List.take_succ_cons, List.take_zero, List.headD_cons, List.length_cons, List.length_nil, List.getElem?_cons_zero, List.getElem?_cons_succ, List.set_cons_zero, List.set_cons_succ, List.map_cons, List.map_nil,
    Bool.not_true, Bool.not_false, Bool.false_eq_true, Bool.true_eq_false, Bool.not_eq_true', Bool.not_eq_false', eq_self, false_imp_iff, true_imp_iff, and_true, true_and, and_false, false_and, or_true, true_or, initFr, fr0_at, Qend, resL, resV1, pack,
    decide_eq_true_eq, decide_eq_false_iff_not, Int.toNat_natCast, Option.some.injEq, exists_eq_left', vcCond_T, vcCond_F]
      intro _
      have hL : Low m l S S4 := (hS1.trans hL2).trans (hL3.trans hL4)
      refine vc_loop (fun n fr S' => ∃ i, i + n = e.kids.length ∧ fr 0 = .ptr l 0 ∧ fr 48 = .sl 5 (encEs e.kids ++ e.ext) e.kids.length ∧ fr 49 = .int .i64 e.kids.length ∧ fr 50 = .int .i64 i ∧
        BS m S' l (bs ++ [firstS e] ++ lenS (e.bytes.length + sumS e.kids) ++ e.bytes ++ putSs (e.kids.take i)) ∧ Low m l S S') e.kids.length
        ⟨0, by simp, by simp [upd_apply, f0], rfl, rfl, rfl, by simpa [putSs] using hbs4, hL⟩ ?_
      clear f0 f3 f4 f5 f24 f25 f26 hin hlt' hlt hbs1 hbs2 hbs3 hbs4 hi hf hS hSn hx hx3 hx4 hS1 hL2 hL3 hL4 hL
      rintro n fr S' ⟨i, hin, f0, f48, f49, f50, hB, hL⟩
      by_cases hlt : i < e.kids.length
      · obtain ⟨k, hk⟩ : ∃ k, e.kids[i]? = some k := ⟨_, List.getElem?_eq_getElem hlt⟩
        have hkm : k ∈ e.kids := List.mem_of_getElem? hk
        have hat := encEs_at e.kids e.ext i k hk
        have h0 : (0 : Int) ≤ i := by omega
        have hlt' : (i : Int) < e.kids.length := by omega
        have hi1 : IntKind.i64.wrap ((i : Int) + 1) = i + 1 := w64 _ (by omega) (by omega)
        simp -implicitDefEqProofs only [f0, f48, f49, f50, hlt, hlt', h0, hat, hi1, encE_length, encE_take5, splice_encE, decide_true, vc_region, vc_quiet, vcD_nil, vcD_val, vcD_eff, vcD_guard, vcDOut, vcDEff, vcDGuard, saysAll, pendAll, pendNext, addPend, Says, vc_bad, vc_seq, vc_ret, vc_skip, vc_cond, vcCond, vc_block, vc_exit, vcGrps_nil, vcGrps_cons, vcGrps_guard, vcGuard, vcOps_nil, vcOps_cons, vcOut, KCall_ret, KCall_pan, skipF_nil, skipF_cons, Qseq_normal, Qseq_ret, Qseq_exit, Qseq_pan, Qblk_normal, Qblk_exit, Qblk_ret, Qblk_pan, Qpan_eq, Qcut_normal, Qcut_exit, Qcut_ret, Qcut_pan, Qloop_normal, Qloop_exit, Qloop_ret, Qloop_pan,
    stepOp, ev, upd_apply, putF, cellsOf, deref, faddrV, mk, abin, abinI, abinS, ibits, aeqb, aun, fldV, idxOf, elems, isPtr, putRef, splice, fillA, rowsA, minV, peqV, elemsA, rowBytes, strOf, Store.get_push, Store.get_set, Store.n_push, Store.n_set,
    Option.map_some, Option.map_none, reduceIte, Nat.reduceEqDiff, Nat.reduceAdd, Nat.reduceLeDiff, Nat.reduceLT, Nat.zero_add, Nat.add_zero, Nat.add_assoc, Nat.add_left_cancel_iff, Nat.left_eq_add, Nat.add_eq_left, Nat.lt_irrefl, Nat.le_refl,
    List.drop_zero, List.drop_succ_cons, List.take_succ_cons, List.take_zero, List.headD_cons, List.length_cons, List.length_nil, List.getElem?_cons_zero, List.getElem?_cons_succ, List.set_cons_zero, List.set_cons_succ, List.map_cons, List.map_nil,
    Bool.not_true, Bool.not_false, Bool.false_eq_true, Bool.true_eq_false, Bool.not_eq_true', Bool.not_eq_false', eq_self, false_imp_iff, true_imp_iff, and_true, true_and, and_false, false_and, or_true, true_or, initFr, fr0_at, Qend, resL, resV1, pack,
    decide_eq_true_eq, decide_eq_false_iff_not, Int.toNat_natCast, Option.some.injEq, exists_eq_left', vcCond_T, vcCond_F]
        have hst : sumS (e.kids.take i) + sizeS k ≤ sumS e.kids := by
          have := sumS_take e.kids (i + 1)
          rw [take_succ hk, sumS_app] at this; exact this
        have hpl := putSs_length (e.kids.take i) fun x hx => hsk x (List.mem_of_mem_take hx)
        refine (ih k hkm (hks k hkm) (htags k hkm) (hsk k hkm) m _ l _ (hB.grow (by simp [Store.n_set, Store.n_push]) fun j hj => by rw [Store.get_set_ne _ _ (by omega), Store.get_push_ne _ _ (by omega)]) (by rw [Store.n_set, Store.n_push]; have := hL.n; omega) (by simp only [List.length_append, List.length_cons, List.length_nil]; omega)).mono ?_
        rintro r S2 ⟨rfl, hB2, hL2⟩
        simp -implicitDefEqProofs only [f0, f48, f49, f50, hi1, vc_region, vc_quiet, vcD_nil, vcD_val, vcD_eff, vcD_guard, vcDOut, vcDEff, vcDGuard, saysAll, pendAll, pendNext, addPend, Says, vc_bad, vc_seq, vc_ret, vc_skip, vc_cond, vcCond, vc_block, vc_exit, vcGrps_nil, vcGrps_cons, vcGrps_guard, vcGuard, vcOps_nil, vcOps_cons, vcOut, KCall_ret, KCall_pan, skipF_nil, skipF_cons, Qseq_normal, Qseq_ret, Qseq_exit, Qseq_pan, Qblk_normal, Qblk_exit, Qblk_ret, Qblk_pan, Qpan_eq, Qcut_normal, Qcut_exit, Qcut_ret, Qcut_pan, Qloop_normal, Qloop_exit, Qloop_ret, Qloop_pan,
    stepOp, ev, upd_apply, putF, cellsOf, deref, faddrV, mk, abin, abinI, abinS, ibits, aeqb, aun, fldV, idxOf, elems, isPtr, putRef, splice, fillA, rowsA, minV, peqV, elemsA, rowBytes, strOf, Store.get_push, Store.get_set, Store.n_push, Store.n_set,
    Option.map_some, Option.map_none, reduceIte, Nat.reduceEqDiff, Nat.reduceAdd, Nat.reduceLeDiff, Nat.reduceLT, Nat.zero_add, Nat.add_zero, Nat.add_assoc, Nat.add_left_cancel_iff, Nat.left_eq_add, Nat.add_eq_left, Nat.lt_irrefl, Nat.le_refl,
    List.drop_zero, List.drop_succ_cons, List.take_succ_cons, List.take_zero, List.headD_cons, List.length_cons, List.length_nil, List.getElem?_cons_zero, List.getElem?_cons_succ, List.set_cons_zero, List.set_cons_succ, List.map_cons, List.map_nil,
    Bool.not_true, Bool.not_false, Bool.false_eq_true, Bool.true_eq_false, Bool.not_eq_true', Bool.not_eq_false', eq_self, false_imp_iff, true_imp_iff, and_true, true_and, and_false, false_and, or_true, true_or, initFr, fr0_at, Qend, resL, resV1, pack,
    decide_eq_true_eq, decide_eq_false_iff_not, Int.toNat_natCast, Option.some.injEq, exists_eq_left', vcCond_T, vcCond_F]
        have hL1 : Low m l S' ((S'.push (.box 24 [.int .i64 0, .int .i64 0, .bool false, .str [], .lit (.slice none 0 0)])).set S'.n (some (.box 24 (encE k)))) := by
          refine ⟨by simp [Store.n_set, Store.n_push], fun j hj _ => by rw [Store.get_set_ne _ _ (by have := hL.n; omega), Store.get_push_ne _ _ (by have := hL.n; omega)], fun j t cs _ h => ?_, fun j o h => ?_⟩
          · have hj := hL.bound hwf.lt j _ h
            rw [Store.get_set_ne _ _ (by omega), Store.get_push_ne _ _ (by omega)]; exact h
          · rw [Store.get_set, Store.get_push] at h
            by_cases ej : j = S'.n
            · subst ej; exact .inr (by rw [Store.n_set, Store.n_push]; omega)
            · rw [if_neg ej, if_neg ej] at h; exact .inl ⟨o, h⟩
        exact ⟨n - 1, by omega, i + 1, by omega, by simp, by rw [take_succ hk, putSs_app]; simpa using hB2, hL.trans (hL1.trans hL2)⟩
      · have hlt' : ¬ (i : Int) < e.kids.length := by omega
        have hi : i = e.kids.length := by omega
        rw [hi, List.take_length] at hB
        simp -implicitDefEqProofs only [f0, f48, f49, f50, hlt', decide_false, vc_region, vc_quiet, vcD_nil, vcD_val, vcD_eff, vcD_guard, vcDOut, vcDEff, vcDGuard, saysAll, pendAll, pendNext, addPend, Says, vc_bad, vc_seq, vc_ret, vc_skip, vc_cond, vcCond, vc_block, vc_exit, vcGrps_nil, vcGrps_cons, vcGrps_guard, vcGuard, vcOps_nil, vcOps_cons, vcOut, KCall_ret, KCall_pan, skipF_nil, skipF_cons, Qseq_normal, Qseq_ret, Qseq_exit, Qseq_pan, Qblk_normal, Qblk_exit, Qblk_ret, Qblk_pan, Qpan_eq, Qcut_normal, Qcut_exit, Qcut_ret, Qcut_pan, Qloop_normal, Qloop_exit, Qloop_ret, Qloop_pan,
    stepOp, ev, upd_apply, putF, cellsOf, deref, faddrV, mk, abin, abinI, abinS, ibits, aeqb, aun, fldV, idxOf, elems, isPtr, putRef, splice, fillA, rowsA, minV, peqV, elemsA, rowBytes, strOf, Store.get_push, Store.get_set, Store.n_push, Store.n_set,
    Option.map_some, Option.map_none, reduceIte, Nat.reduceEqDiff, Nat.reduceAdd, Nat.reduceLeDiff, Nat.reduceLT, Nat.zero_add, Nat.add_zero, Nat.add_assoc, Nat.add_left_cancel_iff, Nat.left_eq_add, Nat.add_eq_left, Nat.lt_irrefl, Nat.le_refl,
    List.drop_zero, List.drop_succ_cons, List.take_succ_cons, List.take_zero, List.headD_cons, List.length_cons, List.length_nil, List.getElem?_cons_zero, List.getElem?_cons_succ, List.set_cons_zero, List.set_cons_succ, List.map_cons, List.map_nil,
    Bool.not_true, Bool.not_false, Bool.false_eq_true, Bool.true_eq_false, Bool.not_eq_true', Bool.not_eq_false', eq_self, false_imp_iff, true_imp_iff, and_true, true_and, and_false, false_and, or_true, true_or, initFr, fr0_at, Qend, resL, resV1, pack,
    decide_eq_true_eq, decide_eq_false_iff_not, Int.toNat_natCast, Option.some.injEq, exists_eq_left', vcCond_T, vcCond_F]
        refine ⟨?_, hL⟩
        simpa using hB
end Go.Proofs.Ytmlllckecalaaaa.Eng

namespace Go.Proofs.Ytmlllckecalaaaa.Eng
open Go Go.Proofs.Try
mutual
theorem allTag_of : ∀ (e : Elem) (w : Int), eachS tagOk e w = true → deepS e w = false → allTag e = true
  | .mk c t k b ks ext, w, h, hd => by
    simp only [eachS, deepS, Bool.or_eq_true, Bool.or_eq_false_iff, decide_eq_true_eq, decide_eq_false_iff_not, Bool.and_eq_true] at h hd
    rcases h with h | h
    · exact absurd h hd.1
    · simp only [allTag, Bool.and_eq_true]; exact ⟨h.1, allTags_of ks (w + 1) h.2 hd.2⟩
theorem allTags_of : ∀ (ks : List Elem) (w : Int), eachSs tagOk ks w = true → deepSs ks w = false → allTags ks = true
  | [], w, h, hd => rfl
  | k :: ks, w, h, hd => by
    simp only [eachSs, deepSs, Bool.or_eq_false_iff, Bool.and_eq_true] at h hd
    simp only [allTags, Bool.and_eq_true]; exact ⟨allTag_of k w h.1 hd.1, allTags_of ks w h.2 hd.2⟩
end
theorem putS_ne (e : Elem) : putS e ≠ [] := by rw [putS_eta]; simp

theorem c15 (e : Elem) (hok : okE e) : Pure prog 15 [.agg (encE e)] (.tup [.str (writeS e).1, .int .i64 (writeS e).2]) := by
  refine Pure.of (fun _ _ => by simp only [nm, nmL, and_self]) fun S => acalls_of_vc low15 (by simp) ?_
  have hx := (Ext.refl S).push
  simp -implicitDefEqProofs only [B15, encE_length, encE_take5, vc_region, vc_quiet, vcD_nil, vcD_val, vcD_eff, vcD_guard, vcDOut, vcDEff, vcDGuard, saysAll, pendAll, pendNext, addPend, Says, vc_bad, vc_seq, vc_ret, vc_skip, vc_cond, vcCond, vc_block, vc_exit, vcGrps_nil, vcGrps_cons, vcGrps_guard, vcGuard, vcOps_nil, vcOps_cons, vcOut, KCall_ret, KCall_pan, skipF_nil, skipF_cons, Qseq_normal, Qseq_ret, Qseq_exit, Qseq_pan, Qblk_normal, Qblk_exit, Qblk_ret, Qblk_pan, Qpan_eq, Qcut_normal, Qcut_exit, Qcut_ret, Qcut_pan, Qloop_normal, Qloop_exit, Qloop_ret, Qloop_pan,
    stepOp, ev, upd_apply, putF, cellsOf, deref, faddrV, mk, abin, abinI, abinS, ibits, aeqb, aun, fldV, idxOf, elems, isPtr, putRef, splice, fillA, rowsA, minV, peqV, elemsA, rowBytes, strOf, Store.get_push, Store.get_set, Store.n_push, Store.n_set,
    Option.map_some, Option.map_none, reduceIte, Nat.reduceEqDiff, Nat.reduceAdd, Nat.reduceLeDiff, Nat.reduceLT, Nat.zero_add, Nat.add_zero, Nat.add_assoc, Nat.add_left_cancel_iff, Nat.left_eq_add, Nat.add_eq_left, Nat.lt_irrefl, Nat.le_refl,
    List.drop_zero, List.drop_succ_cons, List.take_succ_cons, List.take_zero, List.headD_cons, List.length_cons, List.length_nil, List.getElem?_cons_zero, List.getElem?_cons_succ, List.set_cons_zero, List.set_cons_succ, List.map_cons, List.map_nil,
    Bool.not_true, Bool.not_false, Bool.false_eq_true, Bool.true_eq_false, Bool.not_eq_true', Bool.not_eq_false', eq_self, false_imp_iff, true_imp_iff, and_true, true_and, and_false, false_and, or_true, true_or, initFr, fr0_at, Qend, resL, resV1, pack,
    decide_eq_true_eq, decide_eq_false_iff_not, Int.toNat_natCast, Option.some.injEq, exists_eq_left', vcCond_T, vcCond_F]
  refine (c42 43 tagOk has43 c43 e 0 (by omega)).use ?_
  simp -implicitDefEqProofs only [encE_length, encE_take5, vc_region, vc_quiet, vcD_nil, vcD_val, vcD_eff, vcD_guard, vcDOut, vcDEff, vcDGuard, saysAll, pendAll, pendNext, addPend, Says, vc_bad, vc_seq, vc_ret, vc_skip, vc_cond, vcCond, vc_block, vc_exit, vcGrps_nil, vcGrps_cons, vcGrps_guard, vcGuard, vcOps_nil, vcOps_cons, vcOut, KCall_ret, KCall_pan, skipF_nil, skipF_cons, Qseq_normal, Qseq_ret, Qseq_exit, Qseq_pan, Qblk_normal, Qblk_exit, Qblk_ret, Qblk_pan, Qpan_eq, Qcut_normal, Qcut_exit, Qcut_ret, Qcut_pan, Qloop_normal, Qloop_exit, Qloop_ret, Qloop_pan,
    stepOp, ev, upd_apply, putF, cellsOf, deref, faddrV, mk, abin, abinI, abinS, ibits, aeqb, aun, fldV, idxOf, elems, isPtr, putRef, splice, fillA, rowsA, minV, peqV, elemsA, rowBytes, strOf, Store.get_push, Store.get_set, Store.n_push, Store.n_set,
    Option.map_some, Option.map_none, reduceIte, Nat.reduceEqDiff, Nat.reduceAdd, Nat.reduceLeDiff, Nat.reduceLT, Nat.zero_add, Nat.add_zero, Nat.add_assoc, Nat.add_left_cancel_iff, Nat.left_eq_add, Nat.add_eq_left, Nat.lt_irrefl, Nat.le_refl,
    List.drop_zero, List.drop_succ_cons, List.take_succ_cons, List.take_zero, List.headD_cons, List.length_cons, List.length_nil, List.getElem?_cons_zero, List.getElem?_cons_succ, List.set_cons_zero, List.set_cons_succ, List.map_cons, List.map_nil,
    Bool.not_true, Bool.not_false, Bool.false_eq_true, Bool.true_eq_false, Bool.not_eq_true', Bool.not_eq_false', eq_self, false_imp_iff, true_imp_iff, and_true, true_and, and_false, false_and, or_true, true_or, initFr, fr0_at, Qend, resL, resV1, pack,
    decide_eq_true_eq, decide_eq_false_iff_not, Int.toNat_natCast, Option.some.injEq, exists_eq_left', vcCond_T, vcCond_F]
  refine ⟨fun h => ⟨by simp [writeS, h], hx _⟩, fun h1 => ?_⟩
  refine (c42 44 formOk has44 c44 e 0 (by omega)).use ?_
  simp -implicitDefEqProofs only [encE_length, encE_take5, vc_region, vc_quiet, vcD_nil, vcD_val, vcD_eff, vcD_guard, vcDOut, vcDEff, vcDGuard, saysAll, pendAll, pendNext, addPend, Says, vc_bad, vc_seq, vc_ret, vc_skip, vc_cond, vcCond, vc_block, vc_exit, vcGrps_nil, vcGrps_cons, vcGrps_guard, vcGuard, vcOps_nil, vcOps_cons, vcOut, KCall_ret, KCall_pan, skipF_nil, skipF_cons, Qseq_normal, Qseq_ret, Qseq_exit, Qseq_pan, Qblk_normal, Qblk_exit, Qblk_ret, Qblk_pan, Qpan_eq, Qcut_normal, Qcut_exit, Qcut_ret, Qcut_pan, Qloop_normal, Qloop_exit, Qloop_ret, Qloop_pan,
    stepOp, ev, upd_apply, putF, cellsOf, deref, faddrV, mk, abin, abinI, abinS, ibits, aeqb, aun, fldV, idxOf, elems, isPtr, putRef, splice, fillA, rowsA, minV, peqV, elemsA, rowBytes, strOf, Store.get_push, Store.get_set, Store.n_push, Store.n_set,
    Option.map_some, Option.map_none, reduceIte, Nat.reduceEqDiff, Nat.reduceAdd, Nat.reduceLeDiff, Nat.reduceLT, Nat.zero_add, Nat.add_zero, Nat.add_assoc, Nat.add_left_cancel_iff, Nat.left_eq_add, Nat.add_eq_left, Nat.lt_irrefl, Nat.le_refl,
    List.drop_zero, List.drop_succ_cons, List.take_succ_cons, List.take_zero, List.headD_cons, List.length_cons, List.length_nil, List.getElem?_cons_zero, List.getElem?_cons_succ, List.set_cons_zero, List.set_cons_succ, List.map_cons, List.map_nil,
    Bool.not_true, Bool.not_false, Bool.false_eq_true, Bool.true_eq_false, Bool.not_eq_true', Bool.not_eq_false', eq_self, false_imp_iff, true_imp_iff, and_true, true_and, and_false, false_and, or_true, true_or, initFr, fr0_at, Qend, resL, resV1, pack,
    decide_eq_true_eq, decide_eq_false_iff_not, Int.toNat_natCast, Option.some.injEq, exists_eq_left', vcCond_T, vcCond_F]
  refine ⟨fun h => ⟨by simp [writeS, h1, h], hx _⟩, fun h2 => ?_⟩
  refine (c45 e 0 (by omega)).use ?_
  simp -implicitDefEqProofs only [encE_length, encE_take5, vc_region, vc_quiet, vcD_nil, vcD_val, vcD_eff, vcD_guard, vcDOut, vcDEff, vcDGuard, saysAll, pendAll, pendNext, addPend, Says, vc_bad, vc_seq, vc_ret, vc_skip, vc_cond, vcCond, vc_block, vc_exit, vcGrps_nil, vcGrps_cons, vcGrps_guard, vcGuard, vcOps_nil, vcOps_cons, vcOut, KCall_ret, KCall_pan, skipF_nil, skipF_cons, Qseq_normal, Qseq_ret, Qseq_exit, Qseq_pan, Qblk_normal, Qblk_exit, Qblk_ret, Qblk_pan, Qpan_eq, Qcut_normal, Qcut_exit, Qcut_ret, Qcut_pan, Qloop_normal, Qloop_exit, Qloop_ret, Qloop_pan,
    stepOp, ev, upd_apply, putF, cellsOf, deref, faddrV, mk, abin, abinI, abinS, ibits, aeqb, aun, fldV, idxOf, elems, isPtr, putRef, splice, fillA, rowsA, minV, peqV, elemsA, rowBytes, strOf, Store.get_push, Store.get_set, Store.n_push, Store.n_set,
    Option.map_some, Option.map_none, reduceIte, Nat.reduceEqDiff, Nat.reduceAdd, Nat.reduceLeDiff, Nat.reduceLT, Nat.zero_add, Nat.add_zero, Nat.add_assoc, Nat.add_left_cancel_iff, Nat.left_eq_add, Nat.add_eq_left, Nat.lt_irrefl, Nat.le_refl,
    List.drop_zero, List.drop_succ_cons, List.take_succ_cons, List.take_zero, List.headD_cons, List.length_cons, List.length_nil, List.getElem?_cons_zero, List.getElem?_cons_succ, List.set_cons_zero, List.set_cons_succ, List.map_cons, List.map_nil,
    Bool.not_true, Bool.not_false, Bool.false_eq_true, Bool.true_eq_false, Bool.not_eq_true', Bool.not_eq_false', eq_self, false_imp_iff, true_imp_iff, and_true, true_and, and_false, false_and, or_true, true_or, initFr, fr0_at, Qend, resL, resV1, pack,
    decide_eq_true_eq, decide_eq_false_iff_not, Int.toNat_natCast, Option.some.injEq, exists_eq_left', vcCond_T, vcCond_F]
  refine ⟨fun h => ⟨by simp [writeS, h1, h2, h], hx _⟩, fun h3 => ?_⟩
  refine (c46 e hok).use ?_
  simp -implicitDefEqProofs only [encE_length, encE_take5, vc_region, vc_quiet, vcD_nil, vcD_val, vcD_eff, vcD_guard, vcDOut, vcDEff, vcDGuard, saysAll, pendAll, pendNext, addPend, Says, vc_bad, vc_seq, vc_ret, vc_skip, vc_cond, vcCond, vc_block, vc_exit, vcGrps_nil, vcGrps_cons, vcGrps_guard, vcGuard, vcOps_nil, vcOps_cons, vcOut, KCall_ret, KCall_pan, skipF_nil, skipF_cons, Qseq_normal, Qseq_ret, Qseq_exit, Qseq_pan, Qblk_normal, Qblk_exit, Qblk_ret, Qblk_pan, Qpan_eq, Qcut_normal, Qcut_exit, Qcut_ret, Qcut_pan, Qloop_normal, Qloop_exit, Qloop_ret, Qloop_pan,
    stepOp, ev, upd_apply, putF, cellsOf, deref, faddrV, mk, abin, abinI, abinS, ibits, aeqb, aun, fldV, idxOf, elems, isPtr, putRef, splice, fillA, rowsA, minV, peqV, elemsA, rowBytes, strOf, Store.get_push, Store.get_set, Store.n_push, Store.n_set,
    Option.map_some, Option.map_none, reduceIte, Nat.reduceEqDiff, Nat.reduceAdd, Nat.reduceLeDiff, Nat.reduceLT, Nat.zero_add, Nat.add_zero, Nat.add_assoc, Nat.add_left_cancel_iff, Nat.left_eq_add, Nat.add_eq_left, Nat.lt_irrefl, Nat.le_refl,
    List.drop_zero, List.drop_succ_cons, List.take_succ_cons, List.take_zero, List.headD_cons, List.length_cons, List.length_nil, List.getElem?_cons_zero, List.getElem?_cons_succ, List.set_cons_zero, List.set_cons_succ, List.map_cons, List.map_nil,
    Bool.not_true, Bool.not_false, Bool.false_eq_true, Bool.true_eq_false, Bool.not_eq_true', Bool.not_eq_false', eq_self, false_imp_iff, true_imp_iff, and_true, true_and, and_false, false_and, or_true, true_or, initFr, fr0_at, Qend, resL, resV1, pack,
    decide_eq_true_eq, decide_eq_false_iff_not, Int.toNat_natCast, Option.some.injEq, exists_eq_left', vcCond_T, vcCond_F]
  have hlong : (sizeS e : Int) > 65536 → writeS e = ([], 2) := fun h => by
    have : sizeS e > 65536 := by omega
    simp [writeS, h1, h2, h3, this]
  refine ⟨fun h => ⟨by rw [hlong h], hx _⟩, fun h4 => ?_⟩
  have h4' : sizeS e ≤ 65536 := by omega
  refine (c47 e hok (allTag_of e 0 h1 h3) h4' (S.n + 1) _ (S.n + 1) [] ⟨Nat.le_refl _, by simp [Store.n_push], .inl ⟨_, .inl rfl, by simp [Store.get_push, Store.n_push], rfl⟩⟩ (by simp [Store.n_push]) (by simp; omega)).mono ?_
  rintro r S2 ⟨rfl, hB, hL⟩
  simp -implicitDefEqProofs only [vc_region, vc_quiet, vcD_nil, vcD_val, vcD_eff, vcD_guard, vcDOut, vcDEff, vcDGuard, saysAll, pendAll, pendNext, addPend, Says, vc_bad, vc_seq, vc_ret, vc_skip, vc_cond, vcCond, vc_block, vc_exit, vcGrps_nil, vcGrps_cons, vcGrps_guard, vcGuard, vcOps_nil, vcOps_cons, vcOut, KCall_ret, KCall_pan, skipF_nil, skipF_cons, Qseq_normal, Qseq_ret, Qseq_exit, Qseq_pan, Qblk_normal, Qblk_exit, Qblk_ret, Qblk_pan, Qpan_eq, Qcut_normal, Qcut_exit, Qcut_ret, Qcut_pan, Qloop_normal, Qloop_exit, Qloop_ret, Qloop_pan,
    stepOp, ev, upd_apply, putF, cellsOf, deref, faddrV, mk, abin, abinI, abinS, ibits, aeqb, aun, fldV, idxOf, elems, isPtr, putRef, splice, fillA, rowsA, minV, peqV, elemsA, rowBytes, strOf, Store.get_push, Store.get_set, Store.n_push, Store.n_set,
    Option.map_some, Option.map_none, reduceIte, Nat.reduceEqDiff, Nat.reduceAdd, Nat.reduceLeDiff, Nat.reduceLT, Nat.zero_add, Nat.add_zero, Nat.add_assoc, Nat.add_left_cancel_iff, Nat.left_eq_add, Nat.add_eq_left, Nat.lt_irrefl, Nat.le_refl,
    List.drop_zero, List.drop_succ_cons, List.take_succ_cons, List.take_zero, List.headD_cons, List.length_cons, List.length_nil, List.getElem?_cons_zero, List.getElem?_cons_succ, List.set_cons_zero, List.set_cons_succ, List.map_cons, List.map_nil,
    Bool.not_true, Bool.not_false, Bool.false_eq_true, Bool.true_eq_false, Bool.not_eq_true', Bool.not_eq_false', eq_self, false_imp_iff, true_imp_iff, and_true, true_and, and_false, false_and, or_true, true_or, initFr, fr0_at, Qend, resL, resV1, pack,
    decide_eq_true_eq, decide_eq_false_iff_not, Int.toNat_natCast, Option.some.injEq, exists_eq_left', vcCond_T, vcCond_F]
  refine (c48 (S.n + 1) S2 (S.n + 1) (putS e) (by simpa using hB) (putS_ne e)).mono ?_
  rintro r S3 ⟨rfl, hL2⟩
  simp -implicitDefEqProofs only [vc_region, vc_quiet, vcD_nil, vcD_val, vcD_eff, vcD_guard, vcDOut, vcDEff, vcDGuard, saysAll, pendAll, pendNext, addPend, Says, vc_bad, vc_seq, vc_ret, vc_skip, vc_cond, vcCond, vc_block, vc_exit, vcGrps_nil, vcGrps_cons, vcGrps_guard, vcGuard, vcOps_nil, vcOps_cons, vcOut, KCall_ret, KCall_pan, skipF_nil, skipF_cons, Qseq_normal, Qseq_ret, Qseq_exit, Qseq_pan, Qblk_normal, Qblk_exit, Qblk_ret, Qblk_pan, Qpan_eq, Qcut_normal, Qcut_exit, Qcut_ret, Qcut_pan, Qloop_normal, Qloop_exit, Qloop_ret, Qloop_pan,
    stepOp, ev, upd_apply, putF, cellsOf, deref, faddrV, mk, abin, abinI, abinS, ibits, aeqb, aun, fldV, idxOf, elems, isPtr, putRef, splice, fillA, rowsA, minV, peqV, elemsA, rowBytes, strOf, Store.get_push, Store.get_set, Store.n_push, Store.n_set,
    Option.map_some, Option.map_none, reduceIte, Nat.reduceEqDiff, Nat.reduceAdd, Nat.reduceLeDiff, Nat.reduceLT, Nat.zero_add, Nat.add_zero, Nat.add_assoc, Nat.add_left_cancel_iff, Nat.left_eq_add, Nat.add_eq_left, Nat.lt_irrefl, Nat.le_refl,
    List.drop_zero, List.drop_succ_cons, List.take_succ_cons, List.take_zero, List.headD_cons, List.length_cons, List.length_nil, List.getElem?_cons_zero, List.getElem?_cons_succ, List.set_cons_zero, List.set_cons_succ, List.map_cons, List.map_nil,
    Bool.not_true, Bool.not_false, Bool.false_eq_true, Bool.true_eq_false, Bool.not_eq_true', Bool.not_eq_false', eq_self, false_imp_iff, true_imp_iff, and_true, true_and, and_false, false_and, or_true, true_or, initFr, fr0_at, Qend, resL, resV1, pack,
    decide_eq_true_eq, decide_eq_false_iff_not, Int.toNat_natCast, Option.some.injEq, exists_eq_left', vcCond_T, vcCond_F]
  have hw : writeS e = (putS e, 0) := by
    have : ¬ sizeS e > 65536 := by omega
    simp [writeS, h1, h2, h3, this]
  rw [hw]
  refine ⟨rfl, ?_⟩
  have hL3 := hL.trans hL2
  exact ⟨by have := hL3.n; simp only [Store.n_push] at this; omega, fun j hj => by rw [hL3.get j (by omega) (by omega), Store.get_push_ne _ _ (by simp [Store.n_push]; omega), Store.get_push_ne _ _ (by omega)]⟩
end Go.Proofs.Ytmlllckecalaaaa.Eng

namespace Go.Proofs.Ytmlllckecalaaaa.Eng
open Go Go.Proofs.Try
mutual
def rsizeS : Elem → Nat
  | .mk _ _ _ b ks _ => if rsizeSs ks b.length > 65536 then 65537 else if rsizeSs ks b.length < 128 then rsizeSs ks b.length + 2 else if rsizeSs ks b.length < 256 then rsizeSs ks b.length + 3 else rsizeSs ks b.length + 4
def rsizeSs : List Elem → Nat → Nat
  | [], n => n
  | k :: ks, n => if n ≤ 65536 then rsizeSs ks (n + rsizeS k) else n
end
theorem rsizeS_eta (e : Elem) : rsizeS e = if rsizeSs e.kids e.bytes.length > 65536 then 65537 else if rsizeSs e.kids e.bytes.length < 128 then rsizeSs e.kids e.bytes.length + 2 else if rsizeSs e.kids e.bytes.length < 256 then rsizeSs e.kids e.bytes.length + 3 else rsizeSs e.kids e.bytes.length + 4 := by
  cases e; simp only [rsizeS, Elem.kids, Elem.bytes]; rfl
theorem rsizeS_le (e : Elem) : rsizeS e ≤ 65540 := by rw [rsizeS_eta]; split <;> (try split) <;> (try split) <;> omega
theorem rsizeSs_stop (ks : List Elem) (n : Nat) (h : ¬ n ≤ 65536) : rsizeSs ks n = n := by cases ks <;> simp [rsizeSs, h]
theorem lenS_len (n : Nat) : (lenS n).length = if n < 128 then 1 else if n < 256 then 2 else if n < 65536 then 3 else 4 := by
  unfold lenS kOf
  by_cases h1 : n < 128
  · simp [h1]
  · rw [if_neg h1, if_neg h1]
    simp only [List.length_cons, beN_length]
    by_cases h2 : n < 256
    · rw [if_pos h2, if_pos h2]
    · rw [if_neg h2, if_neg h2]; split <;> rfl
theorem size_key (x y : Nat) (h : min x 65537 = min y 65537) : min (1 + (if min x 65537 < 128 then 1 else if min x 65537 < 256 then 2 else if min x 65537 < 65536 then 3 else 4) + x) 65537 =
    min (if y > 65536 then 65537 else if y < 128 then y + 2 else if y < 256 then y + 3 else y + 4) 65537 := by
  by_cases h1 : y > 65536
  · rw [if_pos h1]; omega
  · rw [if_neg h1]
    have hxy : x = y := by omega
    subst hxy
    have e : min x 65537 = x := by omega
    rw [e]
    by_cases h2 : x < 128
    · rw [if_pos h2, if_pos h2]; omega
    · rw [if_neg h2, if_neg h2]
      by_cases h3 : x < 256
      · rw [if_pos h3, if_pos h3]; omega
      · rw [if_neg h3, if_neg h3]; split <;> omega
mutual
theorem size_ref : ∀ (e : Elem), sizeS e = min (rsizeS e) 65537
  | .mk c t k b ks ext => by
    have h := size_refs ks b.length b.length rfl
    rw [sizeS_eta, rsizeS_eta]
    simp only [Elem.kids, Elem.bytes]
    rw [lenS_len]
    exact size_key _ _ h
theorem size_refs : ∀ (ks : List Elem) (n n' : Nat), min n 65537 = min n' 65537 → min (sizeSs ks n) 65537 = min (rsizeSs ks n') 65537
  | [], n, n', h => by simpa only [sizeSs, rsizeSs] using h
  | k :: ks, n, n', h => by
    have hk := size_ref k
    simp only [sizeSs, rsizeSs]
    by_cases h1 : n' ≤ 65536
    · rw [if_pos h1]
      exact size_refs ks _ _ (by omega)
    · rw [if_neg h1]
      have := sizeSs_mono ks (min (n + sizeS k) 65537) (by omega)
      omega
end

theorem c50 : ∀ (e : Elem), okE e → Pure prog 50 [.agg (encE e)] (.int .i64 (rsizeS e)) := by
  intro e
  induction e using Elem.ind with
  | h e ih =>
  intro hok
  obtain ⟨_, _, hbl, hkl, hks⟩ := okE_eta hok
  unfold maxB at hbl hkl
  refine Pure.of (fun _ _ => by simp only [nm]) fun S => acalls_of_vc low50 (by simp) ?_
  rw [encE_eta, rsizeS_eta]
  obtain ⟨bx, hbx⟩ : ∃ bx, bx = AObj.box 24 [AV.int .i64 e.cls, .int .i64 e.tag, .bool e.cons, .str e.bytes, .sl 5 (encEs e.kids ++ e.ext) e.kids.length] := ⟨_, rfl⟩
  have hx := (Ext.refl S).push
  have hl : (S.push bx).get S.n = some bx := Store.get_push_same S bx
  simp -implicitDefEqProofs only [B50, encEs_take, encEs_length, vc_region, vc_quiet, vcD_nil, vcD_val, vcD_eff, vcD_guard, vcDOut, vcDEff, vcDGuard, saysAll, pendAll, pendNext, addPend, Says, vc_bad, vc_seq, vc_ret, vc_skip, vc_cond, vcCond, vc_block, vc_exit, vcGrps_nil, vcGrps_cons, vcGrps_guard, vcGuard, vcOps_nil, vcOps_cons, vcOut, KCall_ret, KCall_pan, skipF_nil, skipF_cons, Qseq_normal, Qseq_ret, Qseq_exit, Qseq_pan, Qblk_normal, Qblk_exit, Qblk_ret, Qblk_pan, Qpan_eq, Qcut_normal, Qcut_exit, Qcut_ret, Qcut_pan, Qloop_normal, Qloop_exit, Qloop_ret, Qloop_pan,
    stepOp, ev, upd_apply, putF, cellsOf, deref, faddrV, mk, abin, abinI, abinS, ibits, aeqb, aun, fldV, idxOf, elems, isPtr, putRef, splice, fillA, rowsA, minV, peqV, elemsA, rowBytes, strOf, Store.get_push, Store.get_set, Store.n_push, Store.n_set,
    Option.map_some, Option.map_none, reduceIte, Nat.reduceEqDiff, Nat.reduceAdd, Nat.reduceLeDiff, Nat.reduceLT, Nat.zero_add, Nat.add_zero, Nat.add_assoc, Nat.add_left_cancel_iff, Nat.left_eq_add, Nat.add_eq_left, Nat.lt_irrefl, Nat.le_refl,
    List.drop_zero, List.drop_succ_cons, List.take_succ_cons, List.take_zero, List.headD_cons, List.length_cons, List.length_nil, List.getElem?_cons_zero, List.getElem?_cons_succ, List.set_cons_zero, List.set_cons_succ, List.map_cons, List.map_nil,
    Bool.not_true, Bool.not_false, Bool.false_eq_true, Bool.true_eq_false, Bool.not_eq_true', Bool.not_eq_false', eq_self, false_imp_iff, true_imp_iff, and_true, true_and, and_false, false_and, or_true, true_or, initFr, fr0_at, Qend, resL, resV1, pack,
    decide_eq_true_eq, decide_eq_false_iff_not, Int.toNat_natCast, Option.some.injEq, exists_eq_left', vcCond_T, vcCond_F]
  rw [← hbx]
  intro _
  refine vc_loop (fun n fr S' => ∃ i c, i + n = e.kids.length ∧ c ≤ maxB + 131080 ∧ fr 1 = .ptr S.n 0 ∧ fr 3 = .int .i64 (c : Nat) ∧ fr 4 = .int .i64 i ∧ Ext S S' ∧ S'.get S.n = some bx ∧ rsizeSs (e.kids.drop i) c = rsizeSs e.kids e.bytes.length) e.kids.length
    ⟨0, e.bytes.length, by simp, by unfold maxB; omega, rfl, rfl, rfl, hx _, hl, rfl⟩ ?_
  rintro n fr S' ⟨i, c, hin, hcb, f1, f3, f4, hS, hg, hd⟩
  unfold maxB at hcb
  have hg0 := hg
  rw [hbx] at hg
  have c2 : IntKind.i64.wrap ((c : Int) + 2) = ((c + 2 : Nat) : Int) := by rw [w64 _ (by omega) (by omega)]; push_cast; rfl
  have c3 : IntKind.i64.wrap ((c : Int) + 3) = ((c + 3 : Nat) : Int) := by rw [w64 _ (by omega) (by omega)]; push_cast; rfl
  have c4 : IntKind.i64.wrap ((c : Int) + 4) = ((c + 4 : Nat) : Int) := by rw [w64 _ (by omega) (by omega)]; push_cast; rfl
  by_cases hlt : i < e.kids.length
  · obtain ⟨k, hk⟩ : ∃ k, e.kids[i]? = some k := ⟨_, List.getElem?_eq_getElem hlt⟩
    have hkm : k ∈ e.kids := List.mem_of_getElem? hk
    have hat := encEs_at e.kids e.ext i k hk
    have h0 : (0 : Int) ≤ i := by omega
    have hlt' : (i : Int) < e.kids.length := by omega
    rw [drop_cons hk] at hd
    by_cases hc : c ≤ 65536
    · have hc' : (c : Int) ≤ 65536 := by omega
      simp -implicitDefEqProofs only [f1, f3, f4, hg, hc', hlt, hlt', h0, hat, encEs_take, encEs_length, encE_length, encE_take5, splice_encE, decide_true, vc_region, vc_quiet, vcD_nil, vcD_val, vcD_eff, vcD_guard, vcDOut, vcDEff, vcDGuard, saysAll, pendAll, pendNext, addPend, Says, vc_bad, vc_seq, vc_ret, vc_skip, vc_cond, vcCond, vc_block, vc_exit, vcGrps_nil, vcGrps_cons, vcGrps_guard, vcGuard, vcOps_nil, vcOps_cons, vcOut, KCall_ret, KCall_pan, skipF_nil, skipF_cons, Qseq_normal, Qseq_ret, Qseq_exit, Qseq_pan, Qblk_normal, Qblk_exit, Qblk_ret, Qblk_pan, Qpan_eq, Qcut_normal, Qcut_exit, Qcut_ret, Qcut_pan, Qloop_normal, Qloop_exit, Qloop_ret, Qloop_pan,
    stepOp, ev, upd_apply, putF, cellsOf, deref, faddrV, mk, abin, abinI, abinS, ibits, aeqb, aun, fldV, idxOf, elems, isPtr, putRef, splice, fillA, rowsA, minV, peqV, elemsA, rowBytes, strOf, Store.get_push, Store.get_set, Store.n_push, Store.n_set,
    Option.map_some, Option.map_none, reduceIte, Nat.reduceEqDiff, Nat.reduceAdd, Nat.reduceLeDiff, Nat.reduceLT, Nat.zero_add, Nat.add_zero, Nat.add_assoc, Nat.add_left_cancel_iff, Nat.left_eq_add, Nat.add_eq_left, Nat.lt_irrefl, Nat.le_refl,
    List.drop_zero, List.drop_succ_cons, List.take_succ_cons, List.take_zero, List.headD_cons, List.length_cons, List.length_nil, List.getElem?_cons_zero, List.getElem?_cons_succ, List.set_cons_zero, List.set_cons_succ, List.map_cons, List.map_nil,
    Bool.not_true, Bool.not_false, Bool.false_eq_true, Bool.true_eq_false, Bool.not_eq_true', Bool.not_eq_false', eq_self, false_imp_iff, true_imp_iff, and_true, true_and, and_false, false_and, or_true, true_or, initFr, fr0_at, Qend, resL, resV1, pack,
    decide_eq_true_eq, decide_eq_false_iff_not, Int.toNat_natCast, Option.some.injEq, exists_eq_left', vcCond_T, vcCond_F]
      intro hlen
      unfold lenMax at hlen
      have hsz := rsizeS_le k
      have hi1 : IntKind.i64.wrap ((i : Int) + 1) = i + 1 := w64 _ (by omega) (by omega)
      have hs1 : IntKind.i64.wrap ((c : Int) + (rsizeS k : Nat)) = ((c + rsizeS k : Nat) : Int) := by rw [w64 _ (by omega) (by omega)]; push_cast; rfl
      refine (ih k hkm (hks k hkm)).use ?_
      simp -implicitDefEqProofs only [f1, f3, f4, hi1, hs1, vc_region, vc_quiet, vcD_nil, vcD_val, vcD_eff, vcD_guard, vcDOut, vcDEff, vcDGuard, saysAll, pendAll, pendNext, addPend, Says, vc_bad, vc_seq, vc_ret, vc_skip, vc_cond, vcCond, vc_block, vc_exit, vcGrps_nil, vcGrps_cons, vcGrps_guard, vcGuard, vcOps_nil, vcOps_cons, vcOut, KCall_ret, KCall_pan, skipF_nil, skipF_cons, Qseq_normal, Qseq_ret, Qseq_exit, Qseq_pan, Qblk_normal, Qblk_exit, Qblk_ret, Qblk_pan, Qpan_eq, Qcut_normal, Qcut_exit, Qcut_ret, Qcut_pan, Qloop_normal, Qloop_exit, Qloop_ret, Qloop_pan,
    stepOp, ev, upd_apply, putF, cellsOf, deref, faddrV, mk, abin, abinI, abinS, ibits, aeqb, aun, fldV, idxOf, elems, isPtr, putRef, splice, fillA, rowsA, minV, peqV, elemsA, rowBytes, strOf, Store.get_push, Store.get_set, Store.n_push, Store.n_set,
    Option.map_some, Option.map_none, reduceIte, Nat.reduceEqDiff, Nat.reduceAdd, Nat.reduceLeDiff, Nat.reduceLT, Nat.zero_add, Nat.add_zero, Nat.add_assoc, Nat.add_left_cancel_iff, Nat.left_eq_add, Nat.add_eq_left, Nat.lt_irrefl, Nat.le_refl,
    List.drop_zero, List.drop_succ_cons, List.take_succ_cons, List.take_zero, List.headD_cons, List.length_cons, List.length_nil, List.getElem?_cons_zero, List.getElem?_cons_succ, List.set_cons_zero, List.set_cons_succ, List.map_cons, List.map_nil,
    Bool.not_true, Bool.not_false, Bool.false_eq_true, Bool.true_eq_false, Bool.not_eq_true', Bool.not_eq_false', eq_self, false_imp_iff, true_imp_iff, and_true, true_and, and_false, false_and, or_true, true_or, initFr, fr0_at, Qend, resL, resV1, pack,
    decide_eq_true_eq, decide_eq_false_iff_not, Int.toNat_natCast, Option.some.injEq, exists_eq_left', vcCond_T, vcCond_F]
      refine ⟨n - 1, by omega, i + 1, c + rsizeS k, by omega, by unfold maxB; omega, rfl, by simp, hS, hg0, ?_⟩
      simpa only [rsizeSs, if_pos hc] using hd
    · have hc' : ¬ (c : Int) ≤ 65536 := by omega
      have hc2 : (c : Int) > 65536 := by omega
      simp -implicitDefEqProofs only [f1, f3, f4, hg, hc', hc2, hlt, hlt', h0, hat, encEs_take, encEs_length, decide_true, decide_false, vc_region, vc_quiet, vcD_nil, vcD_val, vcD_eff, vcD_guard, vcDOut, vcDEff, vcDGuard, saysAll, pendAll, pendNext, addPend, Says, vc_bad, vc_seq, vc_ret, vc_skip, vc_cond, vcCond, vc_block, vc_exit, vcGrps_nil, vcGrps_cons, vcGrps_guard, vcGuard, vcOps_nil, vcOps_cons, vcOut, KCall_ret, KCall_pan, skipF_nil, skipF_cons, Qseq_normal, Qseq_ret, Qseq_exit, Qseq_pan, Qblk_normal, Qblk_exit, Qblk_ret, Qblk_pan, Qpan_eq, Qcut_normal, Qcut_exit, Qcut_ret, Qcut_pan, Qloop_normal, Qloop_exit, Qloop_ret, Qloop_pan,
    stepOp, ev, upd_apply, putF, cellsOf, deref, faddrV, mk, abin, abinI, abinS, ibits, aeqb, aun, fldV, idxOf, elems, isPtr, putRef, splice, fillA, rowsA, minV, peqV, elemsA, rowBytes, strOf, Store.get_push, Store.get_set, Store.n_push, Store.n_set,
    Option.map_some, Option.map_none, reduceIte, Nat.reduceEqDiff, Nat.reduceAdd, Nat.reduceLeDiff, Nat.reduceLT, Nat.zero_add, Nat.add_zero, Nat.add_assoc, Nat.add_left_cancel_iff, Nat.left_eq_add, Nat.add_eq_left, Nat.lt_irrefl, Nat.le_refl,
    List.drop_zero, List.drop_succ_cons, List.take_succ_cons, List.take_zero, List.headD_cons, List.length_cons, List.length_nil, List.getElem?_cons_zero, List.getElem?_cons_succ, List.set_cons_zero, List.set_cons_succ, List.map_cons, List.map_nil,
    Bool.not_true, Bool.not_false, Bool.false_eq_true, Bool.true_eq_false, Bool.not_eq_true', Bool.not_eq_false', eq_self, false_imp_iff, true_imp_iff, and_true, true_and, and_false, false_and, or_true, true_or, initFr, fr0_at, Qend, resL, resV1, pack,
    decide_eq_true_eq, decide_eq_false_iff_not, Int.toNat_natCast, Option.some.injEq, exists_eq_left', vcCond_T, vcCond_F]
      intro _
      simp only [rsizeSs, if_neg hc] at hd
      refine ⟨?_, hS⟩
      rw [← hd, if_pos (by omega)]; rfl
  · have hlt' : ¬ (i : Int) < e.kids.length := by omega
    have hi : i = e.kids.length := by omega
    rw [hi, List.drop_length] at hd
    simp only [rsizeSs] at hd
    simp -implicitDefEqProofs only [f1, f3, f4, hg, hlt', c2, c3, c4, encEs_take, encEs_length, decide_false, vc_region, vc_quiet, vcD_nil, vcD_val, vcD_eff, vcD_guard, vcDOut, vcDEff, vcDGuard, saysAll, pendAll, pendNext, addPend, Says, vc_bad, vc_seq, vc_ret, vc_skip, vc_cond, vcCond, vc_block, vc_exit, vcGrps_nil, vcGrps_cons, vcGrps_guard, vcGuard, vcOps_nil, vcOps_cons, vcOut, KCall_ret, KCall_pan, skipF_nil, skipF_cons, Qseq_normal, Qseq_ret, Qseq_exit, Qseq_pan, Qblk_normal, Qblk_exit, Qblk_ret, Qblk_pan, Qpan_eq, Qcut_normal, Qcut_exit, Qcut_ret, Qcut_pan, Qloop_normal, Qloop_exit, Qloop_ret, Qloop_pan,
    stepOp, ev, upd_apply, putF, cellsOf, deref, faddrV, mk, abin, abinI, abinS, ibits, aeqb, aun, fldV, idxOf, elems, isPtr, putRef, splice, fillA, rowsA, minV, peqV, elemsA, rowBytes, strOf, Store.get_push, Store.get_set, Store.n_push, Store.n_set,
    Option.map_some, Option.map_none, reduceIte, Nat.reduceEqDiff, Nat.reduceAdd, Nat.reduceLeDiff, Nat.reduceLT, Nat.zero_add, Nat.add_zero, Nat.add_assoc, Nat.add_left_cancel_iff, Nat.left_eq_add, Nat.add_eq_left, Nat.lt_irrefl, Nat.le_refl,
    List.drop_zero, List.drop_succ_cons, List.take_succ_cons, List.take_zero, List.headD_cons, List.length_cons, List.length_nil, List.getElem?_cons_zero, List.getElem?_cons_succ, List.set_cons_zero, List.set_cons_succ, List.map_cons, List.map_nil,
    Bool.not_true, Bool.not_false, Bool.false_eq_true, Bool.true_eq_false, Bool.not_eq_true', Bool.not_eq_false', eq_self, false_imp_iff, true_imp_iff, and_true, true_and, and_false, false_and, or_true, true_or, initFr, fr0_at, Qend, resL, resV1, pack,
    decide_eq_true_eq, decide_eq_false_iff_not, Int.toNat_natCast, Option.some.injEq, exists_eq_left', vcCond_T, vcCond_F]
    intro _
    rw [← hd]
    exact ⟨fun h => ⟨by rw [if_pos (by omega)]; rfl, hS⟩, fun h1 => ⟨fun h2 => ⟨by rw [if_neg (by omega), if_pos (by omega)], hS⟩, fun h2 => ⟨fun h3 => ⟨by rw [if_neg (by omega), if_neg (by omega), if_pos (by omega)], hS⟩,
      fun h3 => ⟨by rw [if_neg (by omega), if_neg (by omega), if_neg (by omega)], hS⟩⟩⟩⟩
end Go.Proofs.Ytmlllckecalaaaa.Eng

namespace Go.Proofs.Ytmlllckecalaaaa.Eng
open Go Go.Proofs.Try

theorem c49 : ∀ (e : Elem) (w : Int), 0 ≤ w → Pure prog 49 [.agg (encE e), .int .i64 w] (.tup [.bool (!eachS tagOk e w), .bool (!eachS formOk e w), .bool (deepS e w)]) := by
  intro e
  induction e using Elem.ind with
  | h e ih =>
  intro w hw
  refine Pure.of (fun _ _ => by simp only [nm, nmL, and_self]) fun S => acalls_of_vc low49 (by simp) ?_
  rw [eachS_eta, eachS_eta, deepS_eta]
  obtain ⟨bx, hbx⟩ : ∃ bx, bx = AObj.box 24 [AV.int .i64 e.cls, .int .i64 e.tag, .bool e.cons, .str e.bytes, .sl 5 (encEs e.kids ++ e.ext) e.kids.length] := ⟨_, rfl⟩
  unfold B49
  refine vc_cut (fun fr S' => fr 1 = .int .i64 w ∧ fr 2 = .ptr S.n 0 ∧ S'.get S.n = some bx ∧ Ext S S') ?_ ?_
  · rw [encE_eta]
    simp -implicitDefEqProofs only [vc_region, vc_quiet, vcD_nil, vcD_val, vcD_eff, vcD_guard, vcDOut, vcDEff, vcDGuard, saysAll, pendAll, pendNext, addPend, Says, vc_bad, vc_seq, vc_ret, vc_skip, vc_cond, vcCond, vc_block, vc_exit, vcGrps_nil, vcGrps_cons, vcGrps_guard, vcGuard, vcOps_nil, vcOps_cons, vcOut, KCall_ret, KCall_pan, skipF_nil, skipF_cons, Qseq_normal, Qseq_ret, Qseq_exit, Qseq_pan, Qblk_normal, Qblk_exit, Qblk_ret, Qblk_pan, Qpan_eq, Qcut_normal, Qcut_exit, Qcut_ret, Qcut_pan, Qloop_normal, Qloop_exit, Qloop_ret, Qloop_pan,
    stepOp, ev, upd_apply, putF, cellsOf, deref, faddrV, mk, abin, abinI, abinS, ibits, aeqb, aun, fldV, idxOf, elems, isPtr, putRef, splice, fillA, rowsA, minV, peqV, elemsA, rowBytes, strOf, Store.get_push, Store.get_set, Store.n_push, Store.n_set,
    Option.map_some, Option.map_none, reduceIte, Nat.reduceEqDiff, Nat.reduceAdd, Nat.reduceLeDiff, Nat.reduceLT, Nat.zero_add, Nat.add_zero, Nat.add_assoc, Nat.add_left_cancel_iff, Nat.left_eq_add, Nat.add_eq_left, Nat.lt_irrefl, Nat.le_refl,
    List.drop_zero, List.drop_succ_cons, List.take_succ_cons, List.take_zero, List.headD_cons, List.length_cons, List.length_nil, List.getElem?_cons_zero, List.getElem?_cons_succ, List.set_cons_zero, List.set_cons_succ, List.map_cons, List.map_nil,
    Bool.not_true, Bool.not_false, Bool.false_eq_true, Bool.true_eq_false, Bool.not_eq_true', Bool.not_eq_false', eq_self, false_imp_iff, true_imp_iff, and_true, true_and, and_false, false_and, or_true, true_or, initFr, fr0_at, Qend, resL, resV1, pack,
    decide_eq_true_eq, decide_eq_false_iff_not, Int.toNat_natCast, Option.some.injEq, exists_eq_left', vcCond_T, vcCond_F]
    exact ⟨by rw [hbx], (Ext.refl S).push _⟩
  rintro fr S1 ⟨f1, f2, hg, hS⟩
  refine vc_cut (fun fr S' => fr 1 = .int .i64 w ∧ fr 2 = .ptr S.n 0 ∧ S'.get S.n = some bx ∧ Ext S S' ∧ w < 20) ?_ ?_
  · simp -implicitDefEqProofs only [f1, f2, vc_region, vc_quiet, vcD_nil, vcD_val, vcD_eff, vcD_guard, vcDOut, vcDEff, vcDGuard, saysAll, pendAll, pendNext, addPend, Says, vc_bad, vc_seq, vc_ret, vc_skip, vc_cond, vcCond, vc_block, vc_exit, vcGrps_nil, vcGrps_cons, vcGrps_guard, vcGuard, vcOps_nil, vcOps_cons, vcOut, KCall_ret, KCall_pan, skipF_nil, skipF_cons, Qseq_normal, Qseq_ret, Qseq_exit, Qseq_pan, Qblk_normal, Qblk_exit, Qblk_ret, Qblk_pan, Qpan_eq, Qcut_normal, Qcut_exit, Qcut_ret, Qcut_pan, Qloop_normal, Qloop_exit, Qloop_ret, Qloop_pan,
    stepOp, ev, upd_apply, putF, cellsOf, deref, faddrV, mk, abin, abinI, abinS, ibits, aeqb, aun, fldV, idxOf, elems, isPtr, putRef, splice, fillA, rowsA, minV, peqV, elemsA, rowBytes, strOf, Store.get_push, Store.get_set, Store.n_push, Store.n_set,
    Option.map_some, Option.map_none, reduceIte, Nat.reduceEqDiff, Nat.reduceAdd, Nat.reduceLeDiff, Nat.reduceLT, Nat.zero_add, Nat.add_zero, Nat.add_assoc, Nat.add_left_cancel_iff, Nat.left_eq_add, Nat.add_eq_left, Nat.lt_irrefl, Nat.le_refl,
    List.drop_zero, List.drop_succ_cons, List.take_succ_cons, List.take_zero, List.headD_cons, List.length_cons, List.length_nil, List.getElem?_cons_zero, List.getElem?_cons_succ, List.set_cons_zero, List.set_cons_succ, List.map_cons, List.map_nil,
    Bool.not_true, Bool.not_false, Bool.false_eq_true, Bool.true_eq_false, Bool.not_eq_true', Bool.not_eq_false', eq_self, false_imp_iff, true_imp_iff, and_true, true_and, and_false, false_and, or_true, true_or, initFr, fr0_at, Qend, resL, resV1, pack,
    decide_eq_true_eq, decide_eq_false_iff_not, Int.toNat_natCast, Option.some.injEq, exists_eq_left', vcCond_T, vcCond_F]
    exact ⟨fun h => ⟨by simp [h], hS⟩, fun h => ⟨hg, hS, by omega⟩⟩
  clear f1 f2 hg hS fr S1
  rintro fr S1 ⟨f1, f2, hg, hS, hw20⟩
  refine vc_cut (fun fr S' => fr 1 = .int .i64 w ∧ fr 2 = .ptr S.n 0 ∧ S'.get S.n = some bx ∧ Ext S S' ∧ fr 7 = .bool (!tagOk e)) ?_ ?_
  · rw [hbx] at hg
    simp -implicitDefEqProofs only [f1, f2, hg, vc_region, vc_quiet, vcD_nil, vcD_val, vcD_eff, vcD_guard, vcDOut, vcDEff, vcDGuard, saysAll, pendAll, pendNext, addPend, Says, vc_bad, vc_seq, vc_ret, vc_skip, vc_cond, vcCond, vc_block, vc_exit, vcGrps_nil, vcGrps_cons, vcGrps_guard, vcGuard, vcOps_nil, vcOps_cons, vcOut, KCall_ret, KCall_pan, skipF_nil, skipF_cons, Qseq_normal, Qseq_ret, Qseq_exit, Qseq_pan, Qblk_normal, Qblk_exit, Qblk_ret, Qblk_pan, Qpan_eq, Qcut_normal, Qcut_exit, Qcut_ret, Qcut_pan, Qloop_normal, Qloop_exit, Qloop_ret, Qloop_pan,
    stepOp, ev, upd_apply, putF, cellsOf, deref, faddrV, mk, abin, abinI, abinS, ibits, aeqb, aun, fldV, idxOf, elems, isPtr, putRef, splice, fillA, rowsA, minV, peqV, elemsA, rowBytes, strOf, Store.get_push, Store.get_set, Store.n_push, Store.n_set,
    Option.map_some, Option.map_none, reduceIte, Nat.reduceEqDiff, Nat.reduceAdd, Nat.reduceLeDiff, Nat.reduceLT, Nat.zero_add, Nat.add_zero, Nat.add_assoc, Nat.add_left_cancel_iff, Nat.left_eq_add, Nat.add_eq_left, Nat.lt_irrefl, Nat.le_refl,
    List.drop_zero, List.drop_succ_cons, List.take_succ_cons, List.take_zero, List.headD_cons, List.length_cons, List.length_nil, List.getElem?_cons_zero, List.getElem?_cons_succ, List.set_cons_zero, List.set_cons_succ, List.map_cons, List.map_nil,
    Bool.not_true, Bool.not_false, Bool.false_eq_true, Bool.true_eq_false, Bool.not_eq_true', Bool.not_eq_false', eq_self, false_imp_iff, true_imp_iff, and_true, true_and, and_false, false_and, or_true, true_or, initFr, fr0_at, Qend, resL, resV1, pack,
    decide_eq_true_eq, decide_eq_false_iff_not, Int.toNat_natCast, Option.some.injEq, exists_eq_left', vcCond_T, vcCond_F]
    simp only [hbx, hS, AV.bool.injEq, tagOk, true_and, decide_eq_true_eq, decide_eq_false_iff_not]
    grind
  clear f1 f2 hg hS fr S1
  rintro fr S1 ⟨f1, f2, hg, hS, f7⟩
  refine vc_cut (fun fr S' => fr 1 = .int .i64 w ∧ fr 2 = .ptr S.n 0 ∧ S'.get S.n = some bx ∧ Ext S S' ∧ fr 7 = .bool (!tagOk e) ∧ fr 8 = .bool (!formOk e)) ?_ ?_
  · have hbx' := hg
    rw [hbx] at hg
    cases hc : e.cons
    all_goals
      rw [hc] at hg
      simp -implicitDefEqProofs only [f1, f2, f7, hg, encEs_take, encEs_length, vc_region, vc_quiet, vcD_nil, vcD_val, vcD_eff, vcD_guard, vcDOut, vcDEff, vcDGuard, saysAll, pendAll, pendNext, addPend, Says, vc_bad, vc_seq, vc_ret, vc_skip, vc_cond, vcCond, vc_block, vc_exit, vcGrps_nil, vcGrps_cons, vcGrps_guard, vcGuard, vcOps_nil, vcOps_cons, vcOut, KCall_ret, KCall_pan, skipF_nil, skipF_cons, Qseq_normal, Qseq_ret, Qseq_exit, Qseq_pan, Qblk_normal, Qblk_exit, Qblk_ret, Qblk_pan, Qpan_eq, Qcut_normal, Qcut_exit, Qcut_ret, Qcut_pan, Qloop_normal, Qloop_exit, Qloop_ret, Qloop_pan,
    stepOp, ev, upd_apply, putF, cellsOf, deref, faddrV, mk, abin, abinI, abinS, ibits, aeqb, aun, fldV, idxOf, elems, isPtr, putRef, splice, fillA, rowsA, minV, peqV, elemsA, rowBytes, strOf, Store.get_push, Store.get_set, Store.n_push, Store.n_set,
    Option.map_some, Option.map_none, reduceIte, Nat.reduceEqDiff, Nat.reduceAdd, Nat.reduceLeDiff, Nat.reduceLT, Nat.zero_add, Nat.add_zero, Nat.add_assoc, Nat.add_left_cancel_iff, Nat.left_eq_add, Nat.add_eq_left, Nat.lt_irrefl, Nat.le_refl,
    List.drop_zero, List.drop_succ_cons, List.take_succ_cons, List.take_zero, List.headD_cons, List.length_cons, List.length_nil, List.getElem?_cons_zero, List.getElem?_cons_succ, List.set_cons_zero, List.set_cons_succ, List.map_cons, List.map_nil,
    Bool.not_true, Bool.not_false, Bool.false_eq_true, Bool.true_eq_false, Bool.not_eq_true', Bool.not_eq_false', eq_self, false_imp_iff, true_imp_iff, and_true, true_and, and_false, false_and, or_true, true_or, initFr, fr0_at, Qend, resL, resV1, pack,
    decide_eq_true_eq, decide_eq_false_iff_not, Int.toNat_natCast, Option.some.injEq, exists_eq_left', vcCond_T, vcCond_F]
    · intro _
      refine ⟨by rw [hbx, hc], hS, ?_⟩
      simp only [formOk, hc, AV.bool.injEq, Bool.false_eq_true, if_false]
      by_cases h0 : e.kids.length = 0
      · simp [h0]
      · simp [h0]; omega
    · intro _
      have key : ∀ b : Bool, b = decide ((e.bytes.length : Int) > 0) → (b : Bool) = !formOk e := fun b hb => by
        subst hb
        simp only [formOk, hc, if_true]
        cases e.bytes <;> simp
      exact ⟨fun h => ⟨by rw [hbx, hc], hS, by rw [key false (by simp only [h, decide_false])]⟩, fun h => ⟨by rw [hbx, hc], hS, by rw [key true (by simp only [h, decide_true])]⟩⟩
  clear f1 f2 hg hS f7 fr S1
  rintro fr S1 ⟨f1, f2, hg, hS, f7, f8⟩
  have hg0 := hg
  rw [hbx] at hg
  simp -implicitDefEqProofs only [f1, f2, f7, f8, hg, encEs_take, encEs_length, vc_region, vc_quiet, vcD_nil, vcD_val, vcD_eff, vcD_guard, vcDOut, vcDEff, vcDGuard, saysAll, pendAll, pendNext, addPend, Says, vc_bad, vc_seq, vc_ret, vc_skip, vc_cond, vcCond, vc_block, vc_exit, vcGrps_nil, vcGrps_cons, vcGrps_guard, vcGuard, vcOps_nil, vcOps_cons, vcOut, KCall_ret, KCall_pan, skipF_nil, skipF_cons, Qseq_normal, Qseq_ret, Qseq_exit, Qseq_pan, Qblk_normal, Qblk_exit, Qblk_ret, Qblk_pan, Qpan_eq, Qcut_normal, Qcut_exit, Qcut_ret, Qcut_pan, Qloop_normal, Qloop_exit, Qloop_ret, Qloop_pan,
    stepOp, ev, upd_apply, putF, cellsOf, deref, faddrV, mk, abin, abinI, abinS, ibits, aeqb, aun, fldV, idxOf, elems, isPtr, putRef, splice, fillA, rowsA, minV, peqV, elemsA, rowBytes, strOf, Store.get_push, Store.get_set, Store.n_push, Store.n_set,
    Option.map_some, Option.map_none, reduceIte, Nat.reduceEqDiff, Nat.reduceAdd, Nat.reduceLeDiff, Nat.reduceLT, Nat.zero_add, Nat.add_zero, Nat.add_assoc, Nat.add_left_cancel_iff, Nat.left_eq_add, Nat.add_eq_left, Nat.lt_irrefl, Nat.le_refl,
    List.drop_zero, List.drop_succ_cons, List.take_succ_cons, List.take_zero, List.headD_cons, List.length_cons, List.length_nil, List.getElem?_cons_zero, List.getElem?_cons_succ, List.set_cons_zero, List.set_cons_succ, List.map_cons, List.map_nil,
    Bool.not_true, Bool.not_false, Bool.false_eq_true, Bool.true_eq_false, Bool.not_eq_true', Bool.not_eq_false', eq_self, false_imp_iff, true_imp_iff, and_true, true_and, and_false, false_and, or_true, true_or, initFr, fr0_at, Qend, resL, resV1, pack,
    decide_eq_true_eq, decide_eq_false_iff_not, Int.toNat_natCast, Option.some.injEq, exists_eq_left', vcCond_T, vcCond_F]
  refine vc_loop (fun n fr S' => ∃ i, i + n = e.kids.length ∧ fr 1 = .int .i64 w ∧ fr 2 = .ptr S.n 0 ∧ S'.get S.n = some bx ∧ Ext S S' ∧ fr 10 = .int .i64 i ∧
    fr 7 = .bool (!(tagOk e && eachSs tagOk (e.kids.take i) (w + 1))) ∧ fr 8 = .bool (!(formOk e && eachSs formOk (e.kids.take i) (w + 1))) ∧ fr 9 = .bool (deepSs (e.kids.take i) (w + 1))) e.kids.length
    ⟨0, by simp, by simp [upd_apply, f1], by simp [upd_apply, f2], hg0, hS, rfl, by simp [upd_apply, f7, eachSs], by simp [upd_apply, f8, eachSs], by simp [upd_apply, deepSs]⟩ ?_
  clear f1 f2 hg hg0 hS f7 f8 fr S1
  rintro n fr S1 ⟨i, hin, f1, f2, hg, hS, f10, f7, f8, f9⟩
  have hg0 := hg
  rw [hbx] at hg
  by_cases hlt : i < e.kids.length
  · obtain ⟨k, hk⟩ : ∃ k, e.kids[i]? = some k := ⟨_, List.getElem?_eq_getElem hlt⟩
    have hkm : k ∈ e.kids := List.mem_of_getElem? hk
    have hat := encEs_at e.kids e.ext i k hk
    have h0 : (0 : Int) ≤ i := by omega
    have hlt' : (i : Int) < e.kids.length := by omega
    have hw1 : IntKind.i64.wrap (w + 1) = w + 1 := w64 _ (by omega) (by omega)
    simp -implicitDefEqProofs only [f1, f2, f7, f8, f9, f10, hg, hlt, hlt', h0, hat, hw1, encEs_take, encEs_length, encE_length, encE_take5, decide_true, vc_region, vc_quiet, vcD_nil, vcD_val, vcD_eff, vcD_guard, vcDOut, vcDEff, vcDGuard, saysAll, pendAll, pendNext, addPend, Says, vc_bad, vc_seq, vc_ret, vc_skip, vc_cond, vcCond, vc_block, vc_exit, vcGrps_nil, vcGrps_cons, vcGrps_guard, vcGuard, vcOps_nil, vcOps_cons, vcOut, KCall_ret, KCall_pan, skipF_nil, skipF_cons, Qseq_normal, Qseq_ret, Qseq_exit, Qseq_pan, Qblk_normal, Qblk_exit, Qblk_ret, Qblk_pan, Qpan_eq, Qcut_normal, Qcut_exit, Qcut_ret, Qcut_pan, Qloop_normal, Qloop_exit, Qloop_ret, Qloop_pan,
    stepOp, ev, upd_apply, putF, cellsOf, deref, faddrV, mk, abin, abinI, abinS, ibits, aeqb, aun, fldV, idxOf, elems, isPtr, putRef, splice, fillA, rowsA, minV, peqV, elemsA, rowBytes, strOf, Store.get_push, Store.get_set, Store.n_push, Store.n_set,
    Option.map_some, Option.map_none, reduceIte, Nat.reduceEqDiff, Nat.reduceAdd, Nat.reduceLeDiff, Nat.reduceLT, Nat.zero_add, Nat.add_zero, Nat.add_assoc, Nat.add_left_cancel_iff, Nat.left_eq_add, Nat.add_eq_left, Nat.lt_irrefl, Nat.le_refl,
    List.drop_zero, List.drop_succ_cons, List.take_succ_cons, List.take_zero, List.headD_cons, List.length_cons, List.length_nil, List.getElem?_cons_zero, List.getElem?_cons_succ, List.set_cons_zero, List.set_cons_succ, List.map_cons, List.map_nil,
    Bool.not_true, Bool.not_false, Bool.false_eq_true, Bool.true_eq_false, Bool.not_eq_true', Bool.not_eq_false', eq_self, false_imp_iff, true_imp_iff, and_true, true_and, and_false, false_and, or_true, true_or, initFr, fr0_at, Qend, resL, resV1, pack,
    decide_eq_true_eq, decide_eq_false_iff_not, Int.toNat_natCast, Option.some.injEq, exists_eq_left', vcCond_T, vcCond_F]
    intro hlen
    unfold lenMax at hlen
    have hi1 : IntKind.i64.wrap ((i : Int) + 1) = i + 1 := w64 _ (by omega) (by omega)
    refine (ih k hkm _ (by omega)).use ?_
    generalize ha : (tagOk e && eachSs tagOk (e.kids.take i) (w + 1)) = a at f7
    generalize hb : (formOk e && eachSs formOk (e.kids.take i) (w + 1)) = b at f8
    generalize hc : deepSs (e.kids.take i) (w + 1) = c at f9
    cases a <;> cases b <;> cases c <;>
      (simp only [Bool.not_true, Bool.not_false] at f7 f8
       simp -implicitDefEqProofs only [f1, f2, f7, f8, f9, f10, hi1, vc_region, vc_quiet, vcD_nil, vcD_val, vcD_eff, vcD_guard, vcDOut, vcDEff, vcDGuard, saysAll, pendAll, pendNext, addPend, Says, vc_bad, vc_seq, vc_ret, vc_skip, vc_cond, vcCond, vc_block, vc_exit, vcGrps_nil, vcGrps_cons, vcGrps_guard, vcGuard, vcOps_nil, vcOps_cons, vcOut, KCall_ret, KCall_pan, skipF_nil, skipF_cons, Qseq_normal, Qseq_ret, Qseq_exit, Qseq_pan, Qblk_normal, Qblk_exit, Qblk_ret, Qblk_pan, Qpan_eq, Qcut_normal, Qcut_exit, Qcut_ret, Qcut_pan, Qloop_normal, Qloop_exit, Qloop_ret, Qloop_pan,
    stepOp, ev, upd_apply, putF, cellsOf, deref, faddrV, mk, abin, abinI, abinS, ibits, aeqb, aun, fldV, idxOf, elems, isPtr, putRef, splice, fillA, rowsA, minV, peqV, elemsA, rowBytes, strOf, Store.get_push, Store.get_set, Store.n_push, Store.n_set,
    Option.map_some, Option.map_none, reduceIte, Nat.reduceEqDiff, Nat.reduceAdd, Nat.reduceLeDiff, Nat.reduceLT, Nat.zero_add, Nat.add_zero, Nat.add_assoc, Nat.add_left_cancel_iff, Nat.left_eq_add, Nat.add_eq_left, Nat.lt_irrefl, Nat.le_refl,
    List.drop_zero, List.drop_succ_cons, List.take_succ_cons, List.take_zero, List.headD_cons, List.length_cons, List.length_nil, List.getElem?_cons_zero, List.getElem?_cons_succ, List.set_cons_zero, List.set_cons_succ, List.map_cons, List.map_nil,
    Bool.not_true, Bool.not_false, Bool.false_eq_true, Bool.true_eq_false, Bool.not_eq_true', Bool.not_eq_false', eq_self, false_imp_iff, true_imp_iff, and_true, true_and, and_false, false_and, or_true, true_or, initFr, fr0_at, Qend, resL, resV1, pack,
    decide_eq_true_eq, decide_eq_false_iff_not, Int.toNat_natCast, Option.some.injEq, exists_eq_left', vcCond_T, vcCond_F]
       exact ⟨n - 1, by omega, i + 1, by omega, hg0, hS, by simp, by rw [take_succ hk, eachSs_app, ← Bool.and_assoc, ha]; simp, by rw [take_succ hk, eachSs_app, ← Bool.and_assoc, hb]; simp, by rw [take_succ hk, deepSs_app, hc]; simp⟩)
  · have hlt' : ¬ (i : Int) < e.kids.length := by omega
    have hi : i = e.kids.length := by omega
    rw [hi, List.take_length] at f7 f8 f9
    have hw20' : ¬ w ≥ 20 := by omega
    simp -implicitDefEqProofs only [f1, f2, f7, f8, f9, f10, hg, hlt', encEs_take, encEs_length, decide_false, vc_region, vc_quiet, vcD_nil, vcD_val, vcD_eff, vcD_guard, vcDOut, vcDEff, vcDGuard, saysAll, pendAll, pendNext, addPend, Says, vc_bad, vc_seq, vc_ret, vc_skip, vc_cond, vcCond, vc_block, vc_exit, vcGrps_nil, vcGrps_cons, vcGrps_guard, vcGuard, vcOps_nil, vcOps_cons, vcOut, KCall_ret, KCall_pan, skipF_nil, skipF_cons, Qseq_normal, Qseq_ret, Qseq_exit, Qseq_pan, Qblk_normal, Qblk_exit, Qblk_ret, Qblk_pan, Qpan_eq, Qcut_normal, Qcut_exit, Qcut_ret, Qcut_pan, Qloop_normal, Qloop_exit, Qloop_ret, Qloop_pan,
    stepOp, ev, upd_apply, putF, cellsOf, deref, faddrV, mk, abin, abinI, abinS, ibits, aeqb, aun, fldV, idxOf, elems, isPtr, putRef, splice, fillA, rowsA, minV, peqV, elemsA, rowBytes, strOf, Store.get_push, Store.get_set, Store.n_push, Store.n_set,
    Option.map_some, Option.map_none, reduceIte, Nat.reduceEqDiff, Nat.reduceAdd, Nat.reduceLeDiff, Nat.reduceLT, Nat.zero_add, Nat.add_zero, Nat.add_assoc, Nat.add_left_cancel_iff, Nat.left_eq_add, Nat.add_eq_left, Nat.lt_irrefl, Nat.le_refl,
    List.drop_zero, List.drop_succ_cons, List.take_succ_cons, List.take_zero, List.headD_cons, List.length_cons, List.length_nil, List.getElem?_cons_zero, List.getElem?_cons_succ, List.set_cons_zero, List.set_cons_succ, List.map_cons, List.map_nil,
    Bool.not_true, Bool.not_false, Bool.false_eq_true, Bool.true_eq_false, Bool.not_eq_true', Bool.not_eq_false', eq_self, false_imp_iff, true_imp_iff, and_true, true_and, and_false, false_and, or_true, true_or, initFr, fr0_at, Qend, resL, resV1, pack,
    decide_eq_true_eq, decide_eq_false_iff_not, Int.toNat_natCast, Option.some.injEq, exists_eq_left', vcCond_T, vcCond_F]
    intro _
    exact ⟨by simp [hw20'], hS⟩
end Go.Proofs.Ytmlllckecalaaaa.Eng

namespace Go.Proofs.Ytmlllckecalaaaa.Eng
open Go Go.Proofs.Try

/-- `β` is a slice of one's own that holds `bs`. -/
def OS (m : Nat) (S : Store) (β : AV) (bs : List UInt8) : Prop :=
  (β = .lit (.slice none 0 0) ∧ bs = []) ∨ ∃ k, m ≤ k ∧ k < S.n ∧ β = .own k 0 bs.length ∧ S.get k = some (.row 5 1 0 (byteRow bs))
structure Lo (m : Nat) (S T : Store) : Prop where
  n : S.n ≤ T.n
  get : ∀ j, j < m → T.get j = S.get j
  box : ∀ j t cs, S.get j = some (.box t cs) → T.get j = some (.box t cs)
  bnd : ∀ j o, T.get j = some o → (∃ o', S.get j = some o') ∨ j < T.n
theorem Lo.refl (m : Nat) (S : Store) : Lo m S S := ⟨Nat.le_refl _, fun _ _ => rfl, fun _ _ _ h => h, fun j o h => .inl ⟨o, h⟩⟩
theorem Lo.trans {m : Nat} {S T U : Store} (h : Lo m S T) (k : Lo m T U) : Lo m S U :=
  ⟨Nat.le_trans h.n k.n, fun j hj => (k.get j hj).trans (h.get j hj), fun j t cs e => k.box j t cs (h.box j t cs e), fun j o e => by
    rcases k.bnd j o e with ⟨o', e'⟩ | e'
    · rcases h.bnd j o' e' with h' | h'
      · exact .inl h'
      · exact .inr (Nat.lt_of_lt_of_le h' k.n)
    · exact .inr e'⟩
theorem Lo.bound {m : Nat} {S T : Store} (h : Lo m S T) (hwf : ∀ j o, S.get j = some o → j < S.n) : ∀ j o, T.get j = some o → j < T.n := fun j o e => by
  rcases h.bnd j o e with ⟨o', e'⟩ | e'
  · exact Nat.lt_of_lt_of_le (hwf j o' e') h.n
  · exact e'
theorem Lo.push {m : Nat} {S T : Store} (h : Lo m S T) (o : AObj) (hm : m ≤ T.n) (hwf : ∀ j o, T.get j = some o → j < T.n) : Lo m S (T.push o) :=
  ⟨Nat.le_succ_of_le h.n, fun j hj => by rw [Store.get_push_ne _ _ (by omega)]; exact h.get j hj, fun j t cs e => by
    have h1 := h.box j t cs e
    have := hwf j _ h1
    rw [Store.get_push_ne _ _ (by omega)]; exact h1, fun j o' e => by
    by_cases ej : j = T.n
    · subst ej; exact .inr (Nat.lt_succ_self _)
    · rw [Store.get_push_ne _ _ ej] at e
      rcases h.bnd j o' e with h' | h'
      · exact .inl h'
      · exact .inr (Nat.lt_succ_of_lt h')⟩
theorem Lo.kill {m k : Nat} {S T : Store} (h : Lo m S T) (hk : m ≤ k) {t s f : Nat} {es : List (List AV)} (hrow : T.get k = some (.row t s f es)) : Lo m S (T.set k none) :=
  ⟨h.n, fun j hj => by rw [Store.get_set_ne _ _ (by omega)]; exact h.get j hj, fun j t cs e => by
    have h1 := h.box j t cs e
    rw [Store.get_set_ne _ _ (fun ej => by subst ej; rw [hrow] at h1; cases h1)]; exact h1, fun j o' e => by
    by_cases ej : j = k
    · subst ej; rw [Store.get_set_same] at e; cases e
    · rw [Store.get_set_ne _ _ ej] at e; exact h.bnd j o' e⟩
theorem kill_bnd {T : Store} (k : Nat) (h : ∀ j o, T.get j = some o → j < T.n) : ∀ j o, (T.set k none).get j = some o → j < (T.set k none).n := fun j o e => by
  rw [Store.get_set] at e
  split at e
  · cases e
  · exact h j o e
/-- A row of one's own that grew. -/
theorem os_grow {m : Nat} {T : Store} {k : Nat} {bs more : List UInt8} {es : List (List AV)} {n : Nat} (hm : m ≤ T.n) (he : es = byteRow (bs ++ more)) (hn : n = (bs ++ more).length) :
    OS m ((T.set k none).push (.row 5 1 0 es)) (.own T.n 0 n) (bs ++ more) := by
  subst he; subst hn
  exact .inr ⟨T.n, hm, by simp [Store.n_push, Store.n_set], rfl, by rw [Store.get_push, Store.n_set, if_pos rfl]⟩
theorem lo_grow {m : Nat} {T : Store} {k : Nat} {bs : List UInt8} {es : List (List AV)} (hm : m ≤ T.n) (hk : m ≤ k) (hrow : T.get k = some (.row 5 1 0 (byteRow bs))) (hwf : ∀ j o, T.get j = some o → j < T.n) :
    Lo m T ((T.set k none).push (.row 5 1 0 es)) :=
  ((Lo.refl m T).kill hk hrow).push _ hm (kill_bnd k hwf)

theorem u8q (n d : Nat) (hd : 0 < d) : (n : Int).tdiv (d : Int) = ((n / d : Nat) : Int) := by rw [Int.tdiv_eq_ediv_of_nonneg (by omega)]; rfl
theorem u8m (n d : Nat) : (n : Int).tmod (d : Int) = ((n % d : Nat) : Int) := by rw [Int.tmod_eq_emod_of_nonneg (by omega)]; rfl

theorem lens_ref (n : Nat) (hn : n ≤ 65536) : lenS n = if n < 128 then [UInt8.ofNat n] else if n < 256 then [129, UInt8.ofNat n] else if n < 65536 then [130, UInt8.ofNat (n / 256), UInt8.ofNat (n % 256)]
    else [131, UInt8.ofNat (n / 65536), UInt8.ofNat (n / 256 % 256), UInt8.ofNat (n % 256)] := by
  unfold lenS kOf
  by_cases h1 : n < 128
  · rw [if_pos h1, if_pos h1]
  · rw [if_neg h1, if_neg h1]
    by_cases h2 : n < 256
    · rw [if_pos h2, if_pos h2]; simp [beN]
    · rw [if_neg h2, if_neg h2]
      by_cases h3 : n < 65536
      · rw [if_pos h3, if_pos h3]
        simp only [beN, List.cons.injEq, and_true]
        and_intros <;> first | trivial | rfl | exact UInt8.toNat_inj.1 (by simp)
      · rw [if_neg h3, if_neg h3]
        simp only [beN, List.cons.injEq, and_true]
        and_intros <;> first | trivial | rfl | exact UInt8.toNat_inj.1 (by simp)

mutual
def rputOk : Elem → Prop
  | .mk c t k b ks ext => okE (.mk c t k b ks ext) ∧ tagOk (.mk c t k b ks ext) = true ∧ rsizeS (.mk c t k b ks ext) ≤ 65536 ∧ rputOks ks
def rputOks : List Elem → Prop
  | [] => True
  | k :: ks => rputOk k ∧ rputOks ks
end
def rsumS : List Elem → Nat
  | [] => 0
  | k :: ks => rsizeS k + rsumS ks
theorem rsum_eq : ∀ (ks : List Elem), (∀ k ∈ ks, sizeS k ≤ 65536) → rsumS ks = sumS ks
  | [], _ => rfl
  | k :: ks, h => by
    have h1 := size_ref k
    have h2 := h k (by simp)
    simp only [rsumS, sumS, rsum_eq ks fun x hx => h x (by simp [hx])]
    omega
theorem rsumS_app : ∀ (a : List Elem) (k : Elem), rsumS (a ++ [k]) = rsumS a + rsizeS k
  | [], k => by simp [rsumS]
  | x :: a, k => by simp only [List.cons_append, rsumS, rsumS_app a k]; omega

theorem c51 : ∀ (e : Elem), okE e → allTag e = true → sizeS e ≤ 65536 → ∀ (m : Nat) (S : Store) (β : AV) (bs : List UInt8), OS m S β bs → m ≤ S.n → bs.length + sizeS e ≤ 1048576 →
    ACalls prog 51 [β, .agg (encE e)] S fun r S' => ∃ β', r = .ret β' ∧ OS m S' β' (bs ++ putS e) ∧ Lo m S S' := by
  intro e
  induction e using Elem.ind with
  | h e ih =>
  intro hok htag hsize m S β bs hbs hm hbl
  obtain ⟨_, _, hbl', hkl, hks⟩ := okE_eta hok
  obtain ⟨htag, htags⟩ := allTag_eta htag
  obtain ⟨hsum, hsk, hcl⟩ := sizeS_sum e hsize
  have hre := rsum_eq e.kids hsk
  unfold maxB at hbl' hkl
  have hfirst : ∃ c t : Nat, e.cls = c ∧ e.tag = t ∧ c < 4 ∧ t < 31 := by
    simp only [tagOk, decide_eq_true_eq] at htag
    exact ⟨e.cls.toNat, e.tag.toNat, by omega, by omega, by omega, by omega⟩
  obtain ⟨c, t, hc, ht, hc4, ht31⟩ := hfirst
  have o1 : IntKind.i64.wrap (64 * (c : Int)) = ((64 * c : Nat) : Int) := by rw [w64 _ (by omega) (by omega)]; push_cast; rfl
  have o2 : IntKind.i64.wrap (((64 * c : Nat) : Int) + t) = ((64 * c + t : Nat) : Int) := by rw [w64 _ (by omega) (by omega)]; push_cast; rfl
  have o3 : IntKind.i64.wrap (((64 * c + t : Nat) : Int) + 32) = ((64 * c + t + 32 : Nat) : Int) := by rw [w64 _ (by omega) (by omega)]; push_cast; rfl
  have hff : firstS e = UInt8.ofNat (64 * c + t + if e.cons then 32 else 0) := by unfold firstS; rw [hc, ht]; simp
  refine ACalls.wf fun hwf _ => acalls_of_vc low51 (by simp) ?_
  rw [putS_eta]
  obtain ⟨bx, hbx⟩ : ∃ bx, bx = AObj.box 24 [AV.int .i64 c, .int .i64 t, .bool e.cons, .str e.bytes, .sl 5 (encEs e.kids ++ e.ext) e.kids.length] := ⟨_, rfl⟩
  unfold B51
  refine vc_cut (fun fr S' => fr 0 = β ∧ fr 3 = .ptr S.n 0 ∧ S.push bx = S') ?_ ?_
  · rw [encE_eta, hc, ht]
    simp -implicitDefEqProofs only [vc_region, vc_quiet, vcD_nil, vcD_val, vcD_eff, vcD_guard, vcDOut, vcDEff, vcDGuard, saysAll, pendAll, pendNext, addPend, Says, vc_bad, vc_seq, vc_ret, vc_skip, vc_cond, vcCond, vc_block, vc_exit, vcGrps_nil, vcGrps_cons, vcGrps_guard, vcGuard, vcOps_nil, vcOps_cons, vcOut, KCall_ret, KCall_pan, skipF_nil, skipF_cons, Qseq_normal, Qseq_ret, Qseq_exit, Qseq_pan, Qblk_normal, Qblk_exit, Qblk_ret, Qblk_pan, Qpan_eq, Qcut_normal, Qcut_exit, Qcut_ret, Qcut_pan, Qloop_normal, Qloop_exit, Qloop_ret, Qloop_pan,
    stepOp, ev, upd_apply, putF, cellsOf, deref, faddrV, mk, abin, abinI, abinS, ibits, aeqb, aun, fldV, idxOf, elems, isPtr, putRef, splice, fillA, rowsA, minV, peqV, elemsA, rowBytes, strOf, Store.get_push, Store.get_set, Store.n_push, Store.n_set,
    Option.map_some, Option.map_none, reduceIte, Nat.reduceEqDiff, Nat.reduceAdd, Nat.reduceLeDiff, Nat.reduceLT, Nat.zero_add, Nat.add_zero, Nat.add_assoc, Nat.add_left_cancel_iff, Nat.left_eq_add, Nat.add_eq_left, Nat.lt_irrefl, Nat.le_refl,
    List.drop_zero, List.drop_succ_cons, List.take_succ_cons, List.take_zero, List.headD_cons, List.length_cons, List.length_nil, List.getElem?_cons_zero, List.getElem?_cons_succ, List.set_cons_zero, List.set_cons_succ, List.map_cons, List.map_nil,
    Bool.not_true, Bool.not_false, Bool.false_eq_true, Bool.true_eq_false, Bool.not_eq_true', Bool.not_eq_false', eq_self, false_imp_iff, true_imp_iff, and_true, true_and, and_false, false_and, or_true, true_or, initFr, fr0_at, Qend, resL, resV1, pack,
    decide_eq_true_eq, decide_eq_false_iff_not, Int.toNat_natCast, Option.some.injEq, exists_eq_left', vcCond_T, vcCond_F]
    rw [hbx]
  have hg0 : (S.push bx).get S.n = some bx := Store.get_push_same _ _
  have hwf0 : ∀ j o, (S.push bx).get j = some o → j < (S.push bx).n := fun j o h => by
    rw [Store.get_push] at h
    rw [Store.n_push]
    split at h
    · omega
    · have := (hwf j _ h).1; omega
  have hlo0 : Lo m S (S.push bx) := (Lo.refl m S).push _ hm hwf.lt
  have hos0 : OS m (S.push bx) β bs := by
    rcases hbs with h | ⟨k, h1, h2, h3, h4⟩
    · exact .inl h
    · exact .inr ⟨k, h1, by rw [Store.n_push]; omega, h3, by rw [Store.get_push_ne _ _ (by omega)]; exact h4⟩
  have hn0 : m ≤ (S.push bx).n := by rw [Store.n_push]; omega
  generalize S.push bx = S1 at hg0 hwf0 hlo0 hos0 hn0
  have hg : S1.get S.n = some (.box 24 [AV.int .i64 c, .int .i64 t, .bool e.cons, .str e.bytes, .sl 5 (encEs e.kids ++ e.ext) e.kids.length]) := by rw [hg0, hbx]
  rintro fr T ⟨f0, f3, rfl⟩
  -- the first byte
  refine vc_cut (fun fr T => fr 0 = β ∧ fr 3 = .ptr S.n 0 ∧ S1 = T ∧ fr 5 = .int .i64 ((64 * c + t : Nat) : Int)) ?_ ?_
  · simp -implicitDefEqProofs only [f0, f3, hg, o1, o2, vc_region, vc_quiet, vcD_nil, vcD_val, vcD_eff, vcD_guard, vcDOut, vcDEff, vcDGuard, saysAll, pendAll, pendNext, addPend, Says, vc_bad, vc_seq, vc_ret, vc_skip, vc_cond, vcCond, vc_block, vc_exit, vcGrps_nil, vcGrps_cons, vcGrps_guard, vcGuard, vcOps_nil, vcOps_cons, vcOut, KCall_ret, KCall_pan, skipF_nil, skipF_cons, Qseq_normal, Qseq_ret, Qseq_exit, Qseq_pan, Qblk_normal, Qblk_exit, Qblk_ret, Qblk_pan, Qpan_eq, Qcut_normal, Qcut_exit, Qcut_ret, Qcut_pan, Qloop_normal, Qloop_exit, Qloop_ret, Qloop_pan,
    stepOp, ev, upd_apply, putF, cellsOf, deref, faddrV, mk, abin, abinI, abinS, ibits, aeqb, aun, fldV, idxOf, elems, isPtr, putRef, splice, fillA, rowsA, minV, peqV, elemsA, rowBytes, strOf, Store.get_push, Store.get_set, Store.n_push, Store.n_set,
    Option.map_some, Option.map_none, reduceIte, Nat.reduceEqDiff, Nat.reduceAdd, Nat.reduceLeDiff, Nat.reduceLT, Nat.zero_add, Nat.add_zero, Nat.add_assoc, Nat.add_left_cancel_iff, Nat.left_eq_add, Nat.add_eq_left, Nat.lt_irrefl, Nat.le_refl,
    List.drop_zero, List.drop_succ_cons, List.take_succ_cons, List.take_zero, List.headD_cons, List.length_cons, List.length_nil, List.getElem?_cons_zero, List.getElem?_cons_succ, List.set_cons_zero, List.set_cons_succ, List.map_cons, List.map_nil,
    Bool.not_true, Bool.not_false, Bool.false_eq_true, Bool.true_eq_false, Bool.not_eq_true', Bool.not_eq_false', eq_self, false_imp_iff, true_imp_iff, and_true, true_and, and_false, false_and, or_true, true_or, initFr, fr0_at, Qend, resL, resV1, pack,
    decide_eq_true_eq, decide_eq_false_iff_not, Int.toNat_natCast, Option.some.injEq, exists_eq_left', vcCond_T, vcCond_F]
  clear f0 f3 fr
  rintro fr T ⟨f0, f3, rfl, f5⟩
  refine vc_cut (fun fr T => fr 0 = β ∧ fr 3 = .ptr S.n 0 ∧ S1 = T ∧ ∃ f : Nat, fr 5 = .int .i64 (f : Int) ∧ UInt8.ofNat f = firstS e) ?_ ?_
  · cases hcons : e.cons
    all_goals
      rw [hcons] at hg hff
      simp -implicitDefEqProofs only [f0, f3, f5, hg, o3, vc_region, vc_quiet, vcD_nil, vcD_val, vcD_eff, vcD_guard, vcDOut, vcDEff, vcDGuard, saysAll, pendAll, pendNext, addPend, Says, vc_bad, vc_seq, vc_ret, vc_skip, vc_cond, vcCond, vc_block, vc_exit, vcGrps_nil, vcGrps_cons, vcGrps_guard, vcGuard, vcOps_nil, vcOps_cons, vcOut, KCall_ret, KCall_pan, skipF_nil, skipF_cons, Qseq_normal, Qseq_ret, Qseq_exit, Qseq_pan, Qblk_normal, Qblk_exit, Qblk_ret, Qblk_pan, Qpan_eq, Qcut_normal, Qcut_exit, Qcut_ret, Qcut_pan, Qloop_normal, Qloop_exit, Qloop_ret, Qloop_pan,
    stepOp, ev, upd_apply, putF, cellsOf, deref, faddrV, mk, abin, abinI, abinS, ibits, aeqb, aun, fldV, idxOf, elems, isPtr, putRef, splice, fillA, rowsA, minV, peqV, elemsA, rowBytes, strOf, Store.get_push, Store.get_set, Store.n_push, Store.n_set,
    Option.map_some, Option.map_none, reduceIte, Nat.reduceEqDiff, Nat.reduceAdd, Nat.reduceLeDiff, Nat.reduceLT, Nat.zero_add, Nat.add_zero, Nat.add_assoc, Nat.add_left_cancel_iff, Nat.left_eq_add, Nat.add_eq_left, Nat.lt_irrefl, Nat.le_refl,
    List.drop_zero, List.drop_succ_cons, List.take_succ_cons, List.take_zero, List.headD_cons, List.length_cons, List.length_nil, List.getElem?_cons_zero, List.getElem?_cons_succ, List.set_cons_zero, List.set_cons_succ, List.map_cons, List.map_nil,
    Bool.not_true, Bool.not_false, Bool.false_eq_true, Bool.true_eq_false, Bool.not_eq_true', Bool.not_eq_false', eq_self, false_imp_iff, true_imp_iff, and_true, true_and, and_false, false_and, or_true, true_or, initFr, fr0_at, Qend, resL, resV1, pack,
    decide_eq_true_eq, decide_eq_false_iff_not, Int.toNat_natCast, Option.some.injEq, exists_eq_left', vcCond_T, vcCond_F]
    · exact ⟨64 * c + t, rfl, by rw [hff]; rfl⟩
    · exact ⟨64 * c + t + 32, rfl, by rw [hff]; rfl⟩
  clear f0 f3 f5 fr
  rintro fr T ⟨f0, f3, rfl, f, f5, hf⟩
  refine vc_cut (fun fr T => fr 0 = β ∧ fr 3 = .ptr S.n 0 ∧ S1 = T ∧ fr 5 = .int .i64 (f : Int) ∧ fr 6 = .int .i64 (e.bytes.length : Nat) ∧ e.bytes.length ≤ strMax) ?_ ?_
  · simp -implicitDefEqProofs only [f0, f3, f5, hg, vc_region, vc_quiet, vcD_nil, vcD_val, vcD_eff, vcD_guard, vcDOut, vcDEff, vcDGuard, saysAll, pendAll, pendNext, addPend, Says, vc_bad, vc_seq, vc_ret, vc_skip, vc_cond, vcCond, vc_block, vc_exit, vcGrps_nil, vcGrps_cons, vcGrps_guard, vcGuard, vcOps_nil, vcOps_cons, vcOut, KCall_ret, KCall_pan, skipF_nil, skipF_cons, Qseq_normal, Qseq_ret, Qseq_exit, Qseq_pan, Qblk_normal, Qblk_exit, Qblk_ret, Qblk_pan, Qpan_eq, Qcut_normal, Qcut_exit, Qcut_ret, Qcut_pan, Qloop_normal, Qloop_exit, Qloop_ret, Qloop_pan,
    stepOp, ev, upd_apply, putF, cellsOf, deref, faddrV, mk, abin, abinI, abinS, ibits, aeqb, aun, fldV, idxOf, elems, isPtr, putRef, splice, fillA, rowsA, minV, peqV, elemsA, rowBytes, strOf, Store.get_push, Store.get_set, Store.n_push, Store.n_set,
    Option.map_some, Option.map_none, reduceIte, Nat.reduceEqDiff, Nat.reduceAdd, Nat.reduceLeDiff, Nat.reduceLT, Nat.zero_add, Nat.add_zero, Nat.add_assoc, Nat.add_left_cancel_iff, Nat.left_eq_add, Nat.add_eq_left, Nat.lt_irrefl, Nat.le_refl,
    List.drop_zero, List.drop_succ_cons, List.take_succ_cons, List.take_zero, List.headD_cons, List.length_cons, List.length_nil, List.getElem?_cons_zero, List.getElem?_cons_succ, List.set_cons_zero, List.set_cons_succ, List.map_cons, List.map_nil,
    Bool.not_true, Bool.not_false, Bool.false_eq_true, Bool.true_eq_false, Bool.not_eq_true', Bool.not_eq_false', eq_self, false_imp_iff, true_imp_iff, and_true, true_and, and_false, false_and, or_true, true_or, initFr, fr0_at, Qend, resL, resV1, pack,
    decide_eq_true_eq, decide_eq_false_iff_not, Int.toNat_natCast, Option.some.injEq, exists_eq_left', vcCond_T, vcCond_F]
    exact id
  clear f0 f3 f5 fr
  rintro fr T ⟨f0, f3, rfl, f5, f6, _⟩
  -- how many bytes there are
  refine vc_cut (fun fr T => fr 0 = β ∧ fr 3 = .ptr S.n 0 ∧ S1 = T ∧ fr 5 = .int .i64 (f : Int) ∧ fr 6 = .int .i64 ((e.bytes.length + sumS e.kids : Nat) : Int) ∧ e.kids.length ≤ lenMax) ?_ ?_
  · simp -implicitDefEqProofs only [f0, f3, f5, f6, vc_region, vc_quiet, vcD_nil, vcD_val, vcD_eff, vcD_guard, vcDOut, vcDEff, vcDGuard, saysAll, pendAll, pendNext, addPend, Says, vc_bad, vc_seq, vc_ret, vc_skip, vc_cond, vcCond, vc_block, vc_exit, vcGrps_nil, vcGrps_cons, vcGrps_guard, vcGuard, vcOps_nil, vcOps_cons, vcOut, KCall_ret, KCall_pan, skipF_nil, skipF_cons, Qseq_normal, Qseq_ret, Qseq_exit, Qseq_pan, Qblk_normal, Qblk_exit, Qblk_ret, Qblk_pan, Qpan_eq, Qcut_normal, Qcut_exit, Qcut_ret, Qcut_pan, Qloop_normal, Qloop_exit, Qloop_ret, Qloop_pan,
    stepOp, ev, upd_apply, putF, cellsOf, deref, faddrV, mk, abin, abinI, abinS, ibits, aeqb, aun, fldV, idxOf, elems, isPtr, putRef, splice, fillA, rowsA, minV, peqV, elemsA, rowBytes, strOf, Store.get_push, Store.get_set, Store.n_push, Store.n_set,
    Option.map_some, Option.map_none, reduceIte, Nat.reduceEqDiff, Nat.reduceAdd, Nat.reduceLeDiff, Nat.reduceLT, Nat.zero_add, Nat.add_zero, Nat.add_assoc, Nat.add_left_cancel_iff, Nat.left_eq_add, Nat.add_eq_left, Nat.lt_irrefl, Nat.le_refl,
    List.drop_zero, List.drop_succ_cons, List.take_succ_cons, List.take_zero, List.headD_cons, List.length_cons, List.length_nil, List.getElem?_cons_zero, List.getElem?_cons_succ, List.set_cons_zero, List.set_cons_succ, List.map_cons, List.map_nil,
    Bool.not_true, Bool.not_false, Bool.false_eq_true, Bool.true_eq_false, Bool.not_eq_true', Bool.not_eq_false', eq_self, false_imp_iff, true_imp_iff, and_true, true_and, and_false, false_and, or_true, true_or, initFr, fr0_at, Qend, resL, resV1, pack,
    decide_eq_true_eq, decide_eq_false_iff_not, Int.toNat_natCast, Option.some.injEq, exists_eq_left', vcCond_T, vcCond_F]
    refine vc_loop (fun n fr T => ∃ i, i + n = e.kids.length ∧ fr 0 = β ∧ fr 3 = .ptr S.n 0 ∧ S1 = T ∧ fr 5 = .int .i64 (f : Int) ∧ fr 6 = .int .i64 ((e.bytes.length + sumS (e.kids.take i) : Nat) : Int) ∧ fr 7 = .int .i64 i) e.kids.length
      ⟨0, by simp, by simp [upd_apply, f0], by simp [upd_apply, f3], rfl, by simp [upd_apply, f5], by simp [upd_apply, f6, sumS], rfl⟩ ?_
    clear f0 f3 f5 f6 fr
    rintro n fr T ⟨i, hin, f0, f3, rfl, f5, f6, f7⟩
    by_cases hlt : i < e.kids.length
    · obtain ⟨k, hk⟩ : ∃ k, e.kids[i]? = some k := ⟨_, List.getElem?_eq_getElem hlt⟩
      have hkm : k ∈ e.kids := List.mem_of_getElem? hk
      have hat := encEs_at e.kids e.ext i k hk
      have h0 : (0 : Int) ≤ i := by omega
      have hlt' : (i : Int) < e.kids.length := by omega
      have hi1 : IntKind.i64.wrap ((i : Int) + 1) = i + 1 := w64 _ (by omega) (by omega)
      have hst := sumS_take e.kids i
      have hrs : rsizeS k = sizeS k := by have := size_ref k; have := hsk k hkm; omega
      have hsz := hsk k hkm
      have hs1 : IntKind.i64.wrap (((e.bytes.length + sumS (e.kids.take i) : Nat) : Int) + (sizeS k : Nat)) = ((e.bytes.length + sumS (e.kids.take i) + sizeS k : Nat) : Int) := by rw [w64 _ (by omega) (by omega)]; push_cast; rfl
      simp -implicitDefEqProofs only [f0, f3, f5, f6, f7, hg, hlt, hlt', h0, hat, encEs_take, encEs_length, encE_length, encE_take5, decide_true, vc_region, vc_quiet, vcD_nil, vcD_val, vcD_eff, vcD_guard, vcDOut, vcDEff, vcDGuard, saysAll, pendAll, pendNext, addPend, Says, vc_bad, vc_seq, vc_ret, vc_skip, vc_cond, vcCond, vc_block, vc_exit, vcGrps_nil, vcGrps_cons, vcGrps_guard, vcGuard, vcOps_nil, vcOps_cons, vcOut, KCall_ret, KCall_pan, skipF_nil, skipF_cons, Qseq_normal, Qseq_ret, Qseq_exit, Qseq_pan, Qblk_normal, Qblk_exit, Qblk_ret, Qblk_pan, Qpan_eq, Qcut_normal, Qcut_exit, Qcut_ret, Qcut_pan, Qloop_normal, Qloop_exit, Qloop_ret, Qloop_pan,
    stepOp, ev, upd_apply, putF, cellsOf, deref, faddrV, mk, abin, abinI, abinS, ibits, aeqb, aun, fldV, idxOf, elems, isPtr, putRef, splice, fillA, rowsA, minV, peqV, elemsA, rowBytes, strOf, Store.get_push, Store.get_set, Store.n_push, Store.n_set,
    Option.map_some, Option.map_none, reduceIte, Nat.reduceEqDiff, Nat.reduceAdd, Nat.reduceLeDiff, Nat.reduceLT, Nat.zero_add, Nat.add_zero, Nat.add_assoc, Nat.add_left_cancel_iff, Nat.left_eq_add, Nat.add_eq_left, Nat.lt_irrefl, Nat.le_refl,
    List.drop_zero, List.drop_succ_cons, List.take_succ_cons, List.take_zero, List.headD_cons, List.length_cons, List.length_nil, List.getElem?_cons_zero, List.getElem?_cons_succ, List.set_cons_zero, List.set_cons_succ, List.map_cons, List.map_nil,
    Bool.not_true, Bool.not_false, Bool.false_eq_true, Bool.true_eq_false, Bool.not_eq_true', Bool.not_eq_false', eq_self, false_imp_iff, true_imp_iff, and_true, true_and, and_false, false_and, or_true, true_or, initFr, fr0_at, Qend, resL, resV1, pack,
    decide_eq_true_eq, decide_eq_false_iff_not, Int.toNat_natCast, Option.some.injEq, exists_eq_left', vcCond_T, vcCond_F]
      intro _
      refine (c50 k (hks k hkm)).use ?_
      rw [hrs]
      simp -implicitDefEqProofs only [f0, f3, f5, f6, f7, hi1, hs1, vc_region, vc_quiet, vcD_nil, vcD_val, vcD_eff, vcD_guard, vcDOut, vcDEff, vcDGuard, saysAll, pendAll, pendNext, addPend, Says, vc_bad, vc_seq, vc_ret, vc_skip, vc_cond, vcCond, vc_block, vc_exit, vcGrps_nil, vcGrps_cons, vcGrps_guard, vcGuard, vcOps_nil, vcOps_cons, vcOut, KCall_ret, KCall_pan, skipF_nil, skipF_cons, Qseq_normal, Qseq_ret, Qseq_exit, Qseq_pan, Qblk_normal, Qblk_exit, Qblk_ret, Qblk_pan, Qpan_eq, Qcut_normal, Qcut_exit, Qcut_ret, Qcut_pan, Qloop_normal, Qloop_exit, Qloop_ret, Qloop_pan,
    stepOp, ev, upd_apply, putF, cellsOf, deref, faddrV, mk, abin, abinI, abinS, ibits, aeqb, aun, fldV, idxOf, elems, isPtr, putRef, splice, fillA, rowsA, minV, peqV, elemsA, rowBytes, strOf, Store.get_push, Store.get_set, Store.n_push, Store.n_set,
    Option.map_some, Option.map_none, reduceIte, Nat.reduceEqDiff, Nat.reduceAdd, Nat.reduceLeDiff, Nat.reduceLT, Nat.zero_add, Nat.add_zero, Nat.add_assoc, Nat.add_left_cancel_iff, Nat.left_eq_add, Nat.add_eq_left, Nat.lt_irrefl, Nat.le_refl,
    List.drop_zero, List.drop_succ_cons, List.take_succ_cons, List.take_zero, List.headD_cons, List.length_cons, List.length_nil, List.getElem?_cons_zero, List.getElem?_cons_succ, List.set_cons_zero, List.set_cons_succ, List.map_cons, List.map_nil,
    Bool.not_true, Bool.not_false, Bool.false_eq_true, Bool.true_eq_false, Bool.not_eq_true', Bool.not_eq_false', eq_self, false_imp_iff, true_imp_iff, and_true, true_and, and_false, false_and, or_true, true_or, initFr, fr0_at, Qend, resL, resV1, pack,
    decide_eq_true_eq, decide_eq_false_iff_not, Int.toNat_natCast, Option.some.injEq, exists_eq_left', vcCond_T, vcCond_F]
      exact ⟨n - 1, by omega, i + 1, by omega, by rw [take_succ hk, sumS_app], by simp⟩
    · have hlt' : ¬ (i : Int) < e.kids.length := by omega
      have hi : i = e.kids.length := by omega
      rw [hi, List.take_length] at f6
      simp -implicitDefEqProofs only [f0, f3, f5, f6, f7, hg, hlt', encEs_take, encEs_length, decide_false, vc_region, vc_quiet, vcD_nil, vcD_val, vcD_eff, vcD_guard, vcDOut, vcDEff, vcDGuard, saysAll, pendAll, pendNext, addPend, Says, vc_bad, vc_seq, vc_ret, vc_skip, vc_cond, vcCond, vc_block, vc_exit, vcGrps_nil, vcGrps_cons, vcGrps_guard, vcGuard, vcOps_nil, vcOps_cons, vcOut, KCall_ret, KCall_pan, skipF_nil, skipF_cons, Qseq_normal, Qseq_ret, Qseq_exit, Qseq_pan, Qblk_normal, Qblk_exit, Qblk_ret, Qblk_pan, Qpan_eq, Qcut_normal, Qcut_exit, Qcut_ret, Qcut_pan, Qloop_normal, Qloop_exit, Qloop_ret, Qloop_pan,
    stepOp, ev, upd_apply, putF, cellsOf, deref, faddrV, mk, abin, abinI, abinS, ibits, aeqb, aun, fldV, idxOf, elems, isPtr, putRef, splice, fillA, rowsA, minV, peqV, elemsA, rowBytes, strOf, Store.get_push, Store.get_set, Store.n_push, Store.n_set,
    Option.map_some, Option.map_none, reduceIte, Nat.reduceEqDiff, Nat.reduceAdd, Nat.reduceLeDiff, Nat.reduceLT, Nat.zero_add, Nat.add_zero, Nat.add_assoc, Nat.add_left_cancel_iff, Nat.left_eq_add, Nat.add_eq_left, Nat.lt_irrefl, Nat.le_refl,
    List.drop_zero, List.drop_succ_cons, List.take_succ_cons, List.take_zero, List.headD_cons, List.length_cons, List.length_nil, List.getElem?_cons_zero, List.getElem?_cons_succ, List.set_cons_zero, List.set_cons_succ, List.map_cons, List.map_nil,
    Bool.not_true, Bool.not_false, Bool.false_eq_true, Bool.true_eq_false, Bool.not_eq_true', Bool.not_eq_false', eq_self, false_imp_iff, true_imp_iff, and_true, true_and, and_false, false_and, or_true, true_or, initFr, fr0_at, Qend, resL, resV1, pack,
    decide_eq_true_eq, decide_eq_false_iff_not, Int.toNat_natCast, Option.some.injEq, exists_eq_left', vcCond_T, vcCond_F]
      exact id
  clear f0 f3 f5 f6 fr
  rintro fr T ⟨f0, f3, rfl, f5, f6, hlen⟩
  -- the first byte is laid down
  refine vc_cut (fun fr T => (∃ k, fr 0 = .own k 0 (bs.length + 1) ∧ m ≤ k ∧ T.get k = some (.row 5 1 0 (byteRow (bs ++ [firstS e])))) ∧ fr 3 = .ptr S.n 0 ∧ fr 6 = .int .i64 ((e.bytes.length + sumS e.kids : Nat) : Int) ∧ Lo m S1 T) ?_ ?_
  · rcases hos0 with ⟨rfl, rfl⟩ | ⟨k, h1, h2, rfl, h4⟩
    · simp -implicitDefEqProofs only [f0, f3, f5, f6, w8, hf, vc_region, vc_quiet, vcD_nil, vcD_val, vcD_eff, vcD_guard, vcDOut, vcDEff, vcDGuard, saysAll, pendAll, pendNext, addPend, Says, vc_bad, vc_seq, vc_ret, vc_skip, vc_cond, vcCond, vc_block, vc_exit, vcGrps_nil, vcGrps_cons, vcGrps_guard, vcGuard, vcOps_nil, vcOps_cons, vcOut, KCall_ret, KCall_pan, skipF_nil, skipF_cons, Qseq_normal, Qseq_ret, Qseq_exit, Qseq_pan, Qblk_normal, Qblk_exit, Qblk_ret, Qblk_pan, Qpan_eq, Qcut_normal, Qcut_exit, Qcut_ret, Qcut_pan, Qloop_normal, Qloop_exit, Qloop_ret, Qloop_pan,
    stepOp, ev, upd_apply, putF, cellsOf, deref, faddrV, mk, abin, abinI, abinS, ibits, aeqb, aun, fldV, idxOf, elems, isPtr, putRef, splice, fillA, rowsA, minV, peqV, elemsA, rowBytes, strOf, Store.get_push, Store.get_set, Store.n_push, Store.n_set,
    Option.map_some, Option.map_none, reduceIte, Nat.reduceEqDiff, Nat.reduceAdd, Nat.reduceLeDiff, Nat.reduceLT, Nat.zero_add, Nat.add_zero, Nat.add_assoc, Nat.add_left_cancel_iff, Nat.left_eq_add, Nat.add_eq_left, Nat.lt_irrefl, Nat.le_refl,
    List.drop_zero, List.drop_succ_cons, List.take_succ_cons, List.take_zero, List.headD_cons, List.length_cons, List.length_nil, List.getElem?_cons_zero, List.getElem?_cons_succ, List.set_cons_zero, List.set_cons_succ, List.map_cons, List.map_nil,
    Bool.not_true, Bool.not_false, Bool.false_eq_true, Bool.true_eq_false, Bool.not_eq_true', Bool.not_eq_false', eq_self, false_imp_iff, true_imp_iff, and_true, true_and, and_false, false_and, or_true, true_or, initFr, fr0_at, Qend, resL, resV1, pack,
    decide_eq_true_eq, decide_eq_false_iff_not, Int.toNat_natCast, Option.some.injEq, exists_eq_left', vcCond_T, vcCond_F]
      refine ⟨by omega, ⟨S1.n, rfl, hn0, ?_⟩, (Lo.refl m S1).push _ hn0 hwf0⟩
      simp; rfl
    · simp -implicitDefEqProofs only [f0, f3, f5, f6, w8, hf, h4, byteRow_length, vc_region, vc_quiet, vcD_nil, vcD_val, vcD_eff, vcD_guard, vcDOut, vcDEff, vcDGuard, saysAll, pendAll, pendNext, addPend, Says, vc_bad, vc_seq, vc_ret, vc_skip, vc_cond, vcCond, vc_block, vc_exit, vcGrps_nil, vcGrps_cons, vcGrps_guard, vcGuard, vcOps_nil, vcOps_cons, vcOut, KCall_ret, KCall_pan, skipF_nil, skipF_cons, Qseq_normal, Qseq_ret, Qseq_exit, Qseq_pan, Qblk_normal, Qblk_exit, Qblk_ret, Qblk_pan, Qpan_eq, Qcut_normal, Qcut_exit, Qcut_ret, Qcut_pan, Qloop_normal, Qloop_exit, Qloop_ret, Qloop_pan,
    stepOp, ev, upd_apply, putF, cellsOf, deref, faddrV, mk, abin, abinI, abinS, ibits, aeqb, aun, fldV, idxOf, elems, isPtr, putRef, splice, fillA, rowsA, minV, peqV, elemsA, rowBytes, strOf, Store.get_push, Store.get_set, Store.n_push, Store.n_set,
    Option.map_some, Option.map_none, reduceIte, Nat.reduceEqDiff, Nat.reduceAdd, Nat.reduceLeDiff, Nat.reduceLT, Nat.zero_add, Nat.add_zero, Nat.add_assoc, Nat.add_left_cancel_iff, Nat.left_eq_add, Nat.add_eq_left, Nat.lt_irrefl, Nat.le_refl,
    List.drop_zero, List.drop_succ_cons, List.take_succ_cons, List.take_zero, List.headD_cons, List.length_cons, List.length_nil, List.getElem?_cons_zero, List.getElem?_cons_succ, List.set_cons_zero, List.set_cons_succ, List.map_cons, List.map_nil,
    Bool.not_true, Bool.not_false, Bool.false_eq_true, Bool.true_eq_false, Bool.not_eq_true', Bool.not_eq_false', eq_self, false_imp_iff, true_imp_iff, and_true, true_and, and_false, false_and, or_true, true_or, initFr, fr0_at, Qend, resL, resV1, pack,
    decide_eq_true_eq, decide_eq_false_iff_not, Int.toNat_natCast, Option.some.injEq, exists_eq_left', vcCond_T, vcCond_F]
      refine ⟨by omega, ⟨S1.n, rfl, hn0, ?_⟩, lo_grow hn0 h1 h4 hwf0⟩
      simp [byteRow]
  clear f0 f3 f5 f6 fr hos0
  rintro fr T ⟨⟨k0, f0, hk0, hr0⟩, f3, f6, hL1⟩
  have hgT := hL1.box _ _ _ hg
  have hwfT := hL1.bound hwf0
  have hnT : m ≤ T.n := by have := hL1.n; omega
  -- the length
  have hlr := lens_ref (e.bytes.length + sumS e.kids) hcl
  refine vc_cut (fun fr U => (∃ k, fr 0 = .own k 0 (bs.length + 1 + (lenS (e.bytes.length + sumS e.kids)).length) ∧ m ≤ k ∧ U.get k = some (.row 5 1 0 (byteRow (bs ++ [firstS e] ++ lenS (e.bytes.length + sumS e.kids))))) ∧ fr 3 = .ptr S.n 0 ∧ Lo m T U) ?_ ?_
  · generalize e.bytes.length + sumS e.kids = nn at hlr f6 hcl ⊢
    have q1 : (nn : Int).tdiv 256 = ((nn / 256 : Nat) : Int) := u8q nn 256 (by omega)
    have q2 : (nn : Int).tdiv 65536 = ((nn / 65536 : Nat) : Int) := u8q nn 65536 (by omega)
    have q3 : (nn : Int).tmod 256 = ((nn % 256 : Nat) : Int) := u8m nn 256
    have q4 : ((nn / 256 : Nat) : Int).tmod 256 = ((nn / 256 % 256 : Nat) : Int) := u8m (nn / 256) 256
    have hz1 : ¬ (256 : Int) = 0 := by omega
    have hz2 : ¬ (65536 : Int) = 0 := by omega
    have w1 : IntKind.i64.wrap ((nn / 256 : Nat) : Int) = ((nn / 256 : Nat) : Int) := w64 _ (by omega) (by omega)
    have w2 : IntKind.i64.wrap ((nn / 65536 : Nat) : Int) = ((nn / 65536 : Nat) : Int) := w64 _ (by omega) (by omega)
    by_cases h1 : nn < 128
    · have h1' : (nn : Int) < 128 := by omega
      simp -implicitDefEqProofs only [f0, f3, f6, vc_region, vc_quiet, vcD_nil, vcD_val, vcD_eff, vcD_guard, vcDOut, vcDEff, vcDGuard, saysAll, pendAll, pendNext, addPend, Says, vc_bad, vc_seq, vc_ret, vc_skip, vc_block, vc_exit, vcGrps_nil, vcGrps_cons, vcGrps_guard, vcGuard, vcOps_nil, vcOps_cons, vcOut, KCall_ret, KCall_pan, skipF_nil, skipF_cons, Qseq_normal, Qseq_ret, Qseq_exit, Qseq_pan, Qblk_normal, Qblk_exit, Qblk_ret, Qblk_pan, Qpan_eq, Qcut_normal, Qcut_exit, Qcut_ret, Qcut_pan, Qloop_normal, Qloop_exit, Qloop_ret, Qloop_pan,
    stepOp, ev, upd_apply, putF, cellsOf, deref, faddrV, mk, abin, abinI, abinS, ibits, aeqb, aun, fldV, idxOf, elems, isPtr, putRef, splice, fillA, rowsA, minV, peqV, elemsA, rowBytes, strOf, Store.get_push, Store.get_set, Store.n_push, Store.n_set,
    Option.map_some, Option.map_none, reduceIte, Nat.reduceEqDiff, Nat.reduceAdd, Nat.reduceLeDiff, Nat.reduceLT, Nat.zero_add, Nat.add_zero, Nat.add_assoc, Nat.add_left_cancel_iff, Nat.left_eq_add, Nat.add_eq_left, Nat.lt_irrefl, Nat.le_refl,
    List.drop_zero, List.drop_succ_cons, List.take_succ_cons, List.take_zero, List.headD_cons, List.length_cons, List.length_nil, List.getElem?_cons_zero, List.getElem?_cons_succ, List.set_cons_zero, List.set_cons_succ, List.map_cons, List.map_nil,
    Bool.not_true, Bool.not_false, Bool.false_eq_true, Bool.true_eq_false, Bool.not_eq_true', Bool.not_eq_false', eq_self, false_imp_iff, true_imp_iff, and_true, true_and, and_false, false_and, or_true, true_or, initFr, fr0_at, Qend, resL, resV1, pack,
    decide_eq_true_eq, decide_eq_false_iff_not, Int.toNat_natCast, Option.some.injEq, exists_eq_left']
      refine vc_cond_pos (p := (nn : Int) < 128) (by simp only [ev, upd_apply, Nat.reduceEqDiff, reduceIte]) h1' ?_
      simp -implicitDefEqProofs only [f0, f3, f6, hr0, w8, byteRow_length, vc_region, vc_quiet, vcD_nil, vcD_val, vcD_eff, vcD_guard, vcDOut, vcDEff, vcDGuard, saysAll, pendAll, pendNext, addPend, Says, vc_bad, vc_seq, vc_ret, vc_skip, vc_block, vc_exit, vcGrps_nil, vcGrps_cons, vcGrps_guard, vcGuard, vcOps_nil, vcOps_cons, vcOut, KCall_ret, KCall_pan, skipF_nil, skipF_cons, Qseq_normal, Qseq_ret, Qseq_exit, Qseq_pan, Qblk_normal, Qblk_exit, Qblk_ret, Qblk_pan, Qpan_eq, Qcut_normal, Qcut_exit, Qcut_ret, Qcut_pan, Qloop_normal, Qloop_exit, Qloop_ret, Qloop_pan,
    stepOp, ev, upd_apply, putF, cellsOf, deref, faddrV, mk, abin, abinI, abinS, ibits, aeqb, aun, fldV, idxOf, elems, isPtr, putRef, splice, fillA, rowsA, minV, peqV, elemsA, rowBytes, strOf, Store.get_push, Store.get_set, Store.n_push, Store.n_set,
    Option.map_some, Option.map_none, reduceIte, Nat.reduceEqDiff, Nat.reduceAdd, Nat.reduceLeDiff, Nat.reduceLT, Nat.zero_add, Nat.add_zero, Nat.add_assoc, Nat.add_left_cancel_iff, Nat.left_eq_add, Nat.add_eq_left, Nat.lt_irrefl, Nat.le_refl,
    List.drop_zero, List.drop_succ_cons, List.take_succ_cons, List.take_zero, List.headD_cons, List.length_cons, List.length_nil, List.getElem?_cons_zero, List.getElem?_cons_succ, List.set_cons_zero, List.set_cons_succ, List.map_cons, List.map_nil,
    Bool.not_true, Bool.not_false, Bool.false_eq_true, Bool.true_eq_false, Bool.not_eq_true', Bool.not_eq_false', eq_self, false_imp_iff, true_imp_iff, and_true, true_and, and_false, false_and, or_true, true_or, initFr, fr0_at, Qend, resL, resV1, pack,
    decide_eq_true_eq, decide_eq_false_iff_not, Int.toNat_natCast, Option.some.injEq, exists_eq_left']
      refine ⟨by simp; omega, ⟨T.n, ?_, hnT, ?_⟩, lo_grow hnT hk0 hr0 hwfT⟩
      · rw [hlr, if_pos h1]; simp
      · rw [hlr, if_pos h1]; simp [byteRow]
    · have h1' : ¬ (nn : Int) < 128 := by omega
      simp -implicitDefEqProofs only [f0, f3, f6, vc_region, vc_quiet, vcD_nil, vcD_val, vcD_eff, vcD_guard, vcDOut, vcDEff, vcDGuard, saysAll, pendAll, pendNext, addPend, Says, vc_bad, vc_seq, vc_ret, vc_skip, vc_block, vc_exit, vcGrps_nil, vcGrps_cons, vcGrps_guard, vcGuard, vcOps_nil, vcOps_cons, vcOut, KCall_ret, KCall_pan, skipF_nil, skipF_cons, Qseq_normal, Qseq_ret, Qseq_exit, Qseq_pan, Qblk_normal, Qblk_exit, Qblk_ret, Qblk_pan, Qpan_eq, Qcut_normal, Qcut_exit, Qcut_ret, Qcut_pan, Qloop_normal, Qloop_exit, Qloop_ret, Qloop_pan,
    stepOp, ev, upd_apply, putF, cellsOf, deref, faddrV, mk, abin, abinI, abinS, ibits, aeqb, aun, fldV, idxOf, elems, isPtr, putRef, splice, fillA, rowsA, minV, peqV, elemsA, rowBytes, strOf, Store.get_push, Store.get_set, Store.n_push, Store.n_set,
    Option.map_some, Option.map_none, reduceIte, Nat.reduceEqDiff, Nat.reduceAdd, Nat.reduceLeDiff, Nat.reduceLT, Nat.zero_add, Nat.add_zero, Nat.add_assoc, Nat.add_left_cancel_iff, Nat.left_eq_add, Nat.add_eq_left, Nat.lt_irrefl, Nat.le_refl,
    List.drop_zero, List.drop_succ_cons, List.take_succ_cons, List.take_zero, List.headD_cons, List.length_cons, List.length_nil, List.getElem?_cons_zero, List.getElem?_cons_succ, List.set_cons_zero, List.set_cons_succ, List.map_cons, List.map_nil,
    Bool.not_true, Bool.not_false, Bool.false_eq_true, Bool.true_eq_false, Bool.not_eq_true', Bool.not_eq_false', eq_self, false_imp_iff, true_imp_iff, and_true, true_and, and_false, false_and, or_true, true_or, initFr, fr0_at, Qend, resL, resV1, pack,
    decide_eq_true_eq, decide_eq_false_iff_not, Int.toNat_natCast, Option.some.injEq, exists_eq_left']
      refine vc_cond_neg (p := (nn : Int) < 128) (by simp only [ev, upd_apply, Nat.reduceEqDiff, reduceIte]) h1' ?_
      simp -implicitDefEqProofs only [f0, f3, f6, vc_region, vc_quiet, vcD_nil, vcD_val, vcD_eff, vcD_guard, vcDOut, vcDEff, vcDGuard, saysAll, pendAll, pendNext, addPend, Says, vc_bad, vc_seq, vc_ret, vc_skip, vc_block, vc_exit, vcGrps_nil, vcGrps_cons, vcGrps_guard, vcGuard, vcOps_nil, vcOps_cons, vcOut, KCall_ret, KCall_pan, skipF_nil, skipF_cons, Qseq_normal, Qseq_ret, Qseq_exit, Qseq_pan, Qblk_normal, Qblk_exit, Qblk_ret, Qblk_pan, Qpan_eq, Qcut_normal, Qcut_exit, Qcut_ret, Qcut_pan, Qloop_normal, Qloop_exit, Qloop_ret, Qloop_pan,
    stepOp, ev, upd_apply, putF, cellsOf, deref, faddrV, mk, abin, abinI, abinS, ibits, aeqb, aun, fldV, idxOf, elems, isPtr, putRef, splice, fillA, rowsA, minV, peqV, elemsA, rowBytes, strOf, Store.get_push, Store.get_set, Store.n_push, Store.n_set,
    Option.map_some, Option.map_none, reduceIte, Nat.reduceEqDiff, Nat.reduceAdd, Nat.reduceLeDiff, Nat.reduceLT, Nat.zero_add, Nat.add_zero, Nat.add_assoc, Nat.add_left_cancel_iff, Nat.left_eq_add, Nat.add_eq_left, Nat.lt_irrefl, Nat.le_refl,
    List.drop_zero, List.drop_succ_cons, List.take_succ_cons, List.take_zero, List.headD_cons, List.length_cons, List.length_nil, List.getElem?_cons_zero, List.getElem?_cons_succ, List.set_cons_zero, List.set_cons_succ, List.map_cons, List.map_nil,
    Bool.not_true, Bool.not_false, Bool.false_eq_true, Bool.true_eq_false, Bool.not_eq_true', Bool.not_eq_false', eq_self, false_imp_iff, true_imp_iff, and_true, true_and, and_false, false_and, or_true, true_or, initFr, fr0_at, Qend, resL, resV1, pack,
    decide_eq_true_eq, decide_eq_false_iff_not, Int.toNat_natCast, Option.some.injEq, exists_eq_left']
      by_cases h2 : nn < 256
      · have h2' : (nn : Int) < 256 := by omega
        refine vc_cond_pos (p := (nn : Int) < 256) (by simp only [ev, upd_apply, Nat.reduceEqDiff, reduceIte]) h2' ?_
        simp -implicitDefEqProofs only [f0, f3, f6, hr0, w8, byteRow_length, vc_region, vc_quiet, vcD_nil, vcD_val, vcD_eff, vcD_guard, vcDOut, vcDEff, vcDGuard, saysAll, pendAll, pendNext, addPend, Says, vc_bad, vc_seq, vc_ret, vc_skip, vc_block, vc_exit, vcGrps_nil, vcGrps_cons, vcGrps_guard, vcGuard, vcOps_nil, vcOps_cons, vcOut, KCall_ret, KCall_pan, skipF_nil, skipF_cons, Qseq_normal, Qseq_ret, Qseq_exit, Qseq_pan, Qblk_normal, Qblk_exit, Qblk_ret, Qblk_pan, Qpan_eq, Qcut_normal, Qcut_exit, Qcut_ret, Qcut_pan, Qloop_normal, Qloop_exit, Qloop_ret, Qloop_pan,
    stepOp, ev, upd_apply, putF, cellsOf, deref, faddrV, mk, abin, abinI, abinS, ibits, aeqb, aun, fldV, idxOf, elems, isPtr, putRef, splice, fillA, rowsA, minV, peqV, elemsA, rowBytes, strOf, Store.get_push, Store.get_set, Store.n_push, Store.n_set,
    Option.map_some, Option.map_none, reduceIte, Nat.reduceEqDiff, Nat.reduceAdd, Nat.reduceLeDiff, Nat.reduceLT, Nat.zero_add, Nat.add_zero, Nat.add_assoc, Nat.add_left_cancel_iff, Nat.left_eq_add, Nat.add_eq_left, Nat.lt_irrefl, Nat.le_refl,
    List.drop_zero, List.drop_succ_cons, List.take_succ_cons, List.take_zero, List.headD_cons, List.length_cons, List.length_nil, List.getElem?_cons_zero, List.getElem?_cons_succ, List.set_cons_zero, List.set_cons_succ, List.map_cons, List.map_nil,
    Bool.not_true, Bool.not_false, Bool.false_eq_true, Bool.true_eq_false, Bool.not_eq_true', Bool.not_eq_false', eq_self, false_imp_iff, true_imp_iff, and_true, true_and, and_false, false_and, or_true, true_or, initFr, fr0_at, Qend, resL, resV1, pack,
    decide_eq_true_eq, decide_eq_false_iff_not, Int.toNat_natCast, Option.some.injEq, exists_eq_left']
        refine ⟨by simp; omega, ⟨T.n, ?_, hnT, ?_⟩, lo_grow hnT hk0 hr0 hwfT⟩
        · rw [hlr, if_neg h1, if_pos h2]; simp
        · rw [hlr, if_neg h1, if_pos h2]; simp [byteRow]
      · have h2' : ¬ (nn : Int) < 256 := by omega
        refine vc_cond_neg (p := (nn : Int) < 256) (by simp only [ev, upd_apply, Nat.reduceEqDiff, reduceIte]) h2' ?_
        simp -implicitDefEqProofs only [f0, f3, f6, vc_region, vc_quiet, vcD_nil, vcD_val, vcD_eff, vcD_guard, vcDOut, vcDEff, vcDGuard, saysAll, pendAll, pendNext, addPend, Says, vc_bad, vc_seq, vc_ret, vc_skip, vc_block, vc_exit, vcGrps_nil, vcGrps_cons, vcGrps_guard, vcGuard, vcOps_nil, vcOps_cons, vcOut, KCall_ret, KCall_pan, skipF_nil, skipF_cons, Qseq_normal, Qseq_ret, Qseq_exit, Qseq_pan, Qblk_normal, Qblk_exit, Qblk_ret, Qblk_pan, Qpan_eq, Qcut_normal, Qcut_exit, Qcut_ret, Qcut_pan, Qloop_normal, Qloop_exit, Qloop_ret, Qloop_pan,
    stepOp, ev, upd_apply, putF, cellsOf, deref, faddrV, mk, abin, abinI, abinS, ibits, aeqb, aun, fldV, idxOf, elems, isPtr, putRef, splice, fillA, rowsA, minV, peqV, elemsA, rowBytes, strOf, Store.get_push, Store.get_set, Store.n_push, Store.n_set,
    Option.map_some, Option.map_none, reduceIte, Nat.reduceEqDiff, Nat.reduceAdd, Nat.reduceLeDiff, Nat.reduceLT, Nat.zero_add, Nat.add_zero, Nat.add_assoc, Nat.add_left_cancel_iff, Nat.left_eq_add, Nat.add_eq_left, Nat.lt_irrefl, Nat.le_refl,
    List.drop_zero, List.drop_succ_cons, List.take_succ_cons, List.take_zero, List.headD_cons, List.length_cons, List.length_nil, List.getElem?_cons_zero, List.getElem?_cons_succ, List.set_cons_zero, List.set_cons_succ, List.map_cons, List.map_nil,
    Bool.not_true, Bool.not_false, Bool.false_eq_true, Bool.true_eq_false, Bool.not_eq_true', Bool.not_eq_false', eq_self, false_imp_iff, true_imp_iff, and_true, true_and, and_false, false_and, or_true, true_or, initFr, fr0_at, Qend, resL, resV1, pack,
    decide_eq_true_eq, decide_eq_false_iff_not, Int.toNat_natCast, Option.some.injEq, exists_eq_left']
        by_cases h3 : nn < 65536
        · have h3' : (nn : Int) < 65536 := by omega
          refine vc_cond_pos (p := (nn : Int) < 65536) (by simp only [ev, upd_apply, Nat.reduceEqDiff, reduceIte]) h3' ?_
          simp -implicitDefEqProofs only [f0, f3, f6, hr0, q1, q3, hz1, w1, w8, byteRow_length, vc_region, vc_quiet, vcD_nil, vcD_val, vcD_eff, vcD_guard, vcDOut, vcDEff, vcDGuard, saysAll, pendAll, pendNext, addPend, Says, vc_bad, vc_seq, vc_ret, vc_skip, vc_block, vc_exit, vcGrps_nil, vcGrps_cons, vcGrps_guard, vcGuard, vcOps_nil, vcOps_cons, vcOut, KCall_ret, KCall_pan, skipF_nil, skipF_cons, Qseq_normal, Qseq_ret, Qseq_exit, Qseq_pan, Qblk_normal, Qblk_exit, Qblk_ret, Qblk_pan, Qpan_eq, Qcut_normal, Qcut_exit, Qcut_ret, Qcut_pan, Qloop_normal, Qloop_exit, Qloop_ret, Qloop_pan,
    stepOp, ev, upd_apply, putF, cellsOf, deref, faddrV, mk, abin, abinI, abinS, ibits, aeqb, aun, fldV, idxOf, elems, isPtr, putRef, splice, fillA, rowsA, minV, peqV, elemsA, rowBytes, strOf, Store.get_push, Store.get_set, Store.n_push, Store.n_set,
    Option.map_some, Option.map_none, reduceIte, Nat.reduceEqDiff, Nat.reduceAdd, Nat.reduceLeDiff, Nat.reduceLT, Nat.zero_add, Nat.add_zero, Nat.add_assoc, Nat.add_left_cancel_iff, Nat.left_eq_add, Nat.add_eq_left, Nat.lt_irrefl, Nat.le_refl,
    List.drop_zero, List.drop_succ_cons, List.take_succ_cons, List.take_zero, List.headD_cons, List.length_cons, List.length_nil, List.getElem?_cons_zero, List.getElem?_cons_succ, List.set_cons_zero, List.set_cons_succ, List.map_cons, List.map_nil,
    Bool.not_true, Bool.not_false, Bool.false_eq_true, Bool.true_eq_false, Bool.not_eq_true', Bool.not_eq_false', eq_self, false_imp_iff, true_imp_iff, and_true, true_and, and_false, false_and, or_true, true_or, initFr, fr0_at, Qend, resL, resV1, pack,
    decide_eq_true_eq, decide_eq_false_iff_not, Int.toNat_natCast, Option.some.injEq, exists_eq_left']
          refine ⟨by simp; omega, ⟨T.n, ?_, hnT, ?_⟩, lo_grow hnT hk0 hr0 hwfT⟩
          · rw [hlr, if_neg h1, if_neg h2, if_pos h3]; simp
          · rw [hlr, if_neg h1, if_neg h2, if_pos h3]; simp [byteRow]
        · have h3' : ¬ (nn : Int) < 65536 := by omega
          refine vc_cond_neg (p := (nn : Int) < 65536) (by simp only [ev, upd_apply, Nat.reduceEqDiff, reduceIte]) h3' ?_
          simp -implicitDefEqProofs only [f0, f3, f6, hr0, q1, q2, q3, q4, hz1, hz2, w1, w2, w8, byteRow_length, vc_region, vc_quiet, vcD_nil, vcD_val, vcD_eff, vcD_guard, vcDOut, vcDEff, vcDGuard, saysAll, pendAll, pendNext, addPend, Says, vc_bad, vc_seq, vc_ret, vc_skip, vc_block, vc_exit, vcGrps_nil, vcGrps_cons, vcGrps_guard, vcGuard, vcOps_nil, vcOps_cons, vcOut, KCall_ret, KCall_pan, skipF_nil, skipF_cons, Qseq_normal, Qseq_ret, Qseq_exit, Qseq_pan, Qblk_normal, Qblk_exit, Qblk_ret, Qblk_pan, Qpan_eq, Qcut_normal, Qcut_exit, Qcut_ret, Qcut_pan, Qloop_normal, Qloop_exit, Qloop_ret, Qloop_pan,
    stepOp, ev, upd_apply, putF, cellsOf, deref, faddrV, mk, abin, abinI, abinS, ibits, aeqb, aun, fldV, idxOf, elems, isPtr, putRef, splice, fillA, rowsA, minV, peqV, elemsA, rowBytes, strOf, Store.get_push, Store.get_set, Store.n_push, Store.n_set,
    Option.map_some, Option.map_none, reduceIte, Nat.reduceEqDiff, Nat.reduceAdd, Nat.reduceLeDiff, Nat.reduceLT, Nat.zero_add, Nat.add_zero, Nat.add_assoc, Nat.add_left_cancel_iff, Nat.left_eq_add, Nat.add_eq_left, Nat.lt_irrefl, Nat.le_refl,
    List.drop_zero, List.drop_succ_cons, List.take_succ_cons, List.take_zero, List.headD_cons, List.length_cons, List.length_nil, List.getElem?_cons_zero, List.getElem?_cons_succ, List.set_cons_zero, List.set_cons_succ, List.map_cons, List.map_nil,
    Bool.not_true, Bool.not_false, Bool.false_eq_true, Bool.true_eq_false, Bool.not_eq_true', Bool.not_eq_false', eq_self, false_imp_iff, true_imp_iff, and_true, true_and, and_false, false_and, or_true, true_or, initFr, fr0_at, Qend, resL, resV1, pack,
    decide_eq_true_eq, decide_eq_false_iff_not, Int.toNat_natCast, Option.some.injEq, exists_eq_left']
          refine ⟨by simp; omega, ⟨T.n, ?_, hnT, ?_⟩, lo_grow hnT hk0 hr0 hwfT⟩
          · rw [hlr, if_neg h1, if_neg h2, if_neg h3]; simp
          · rw [hlr, if_neg h1, if_neg h2, if_neg h3]; simp [byteRow]
  clear f0 f3 f6 hk0 hr0 fr k0
  rintro fr U ⟨⟨k0, f0, hk0, hr0⟩, f3, hL2⟩
  have hgU := hL2.box _ _ _ hgT
  have hwfU := hL2.bound hwfT
  have hnU : m ≤ U.n := by have := hL2.n; omega
  -- the bytes
  refine vc_cut (fun fr V => (∃ k, fr 0 = .own k 0 (bs.length + 1 + (lenS (e.bytes.length + sumS e.kids)).length + e.bytes.length) ∧ m ≤ k ∧ V.get k = some (.row 5 1 0 (byteRow (bs ++ [firstS e] ++ lenS (e.bytes.length + sumS e.kids) ++ e.bytes)))) ∧ fr 3 = .ptr S.n 0 ∧ Lo m U V) ?_ ?_
  · simp -implicitDefEqProofs only [f0, f3, hr0, hgU, byteRow_length, List.length_append, List.length_map, vc_region, vc_quiet, vcD_nil, vcD_val, vcD_eff, vcD_guard, vcDOut, vcDEff, vcDGuard, saysAll, pendAll, pendNext, addPend, Says, vc_bad, vc_seq, vc_ret, vc_skip, vc_cond, vcCond, vc_block, vc_exit, vcGrps_nil, vcGrps_cons, vcGrps_guard, vcGuard, vcOps_nil, vcOps_cons, vcOut, KCall_ret, KCall_pan, skipF_nil, skipF_cons, Qseq_normal, Qseq_ret, Qseq_exit, Qseq_pan, Qblk_normal, Qblk_exit, Qblk_ret, Qblk_pan, Qpan_eq, Qcut_normal, Qcut_exit, Qcut_ret, Qcut_pan, Qloop_normal, Qloop_exit, Qloop_ret, Qloop_pan,
    stepOp, ev, upd_apply, putF, cellsOf, deref, faddrV, mk, abin, abinI, abinS, ibits, aeqb, aun, fldV, idxOf, elems, isPtr, putRef, splice, fillA, rowsA, minV, peqV, elemsA, rowBytes, strOf, Store.get_push, Store.get_set, Store.n_push, Store.n_set,
    Option.map_some, Option.map_none, reduceIte, Nat.reduceEqDiff, Nat.reduceAdd, Nat.reduceLeDiff, Nat.reduceLT, Nat.zero_add, Nat.add_zero, Nat.add_assoc, Nat.add_left_cancel_iff, Nat.left_eq_add, Nat.add_eq_left, Nat.lt_irrefl, Nat.le_refl,
    List.drop_zero, List.drop_succ_cons, List.take_succ_cons, List.take_zero, List.headD_cons, List.length_cons, List.length_nil, List.getElem?_cons_zero, List.getElem?_cons_succ, List.set_cons_zero, List.set_cons_succ, List.map_cons, List.map_nil,
    Bool.not_true, Bool.not_false, Bool.false_eq_true, Bool.true_eq_false, Bool.not_eq_true', Bool.not_eq_false', eq_self, false_imp_iff, true_imp_iff, and_true, true_and, and_false, false_and, or_true, true_or, initFr, fr0_at, Qend, resL, resV1, pack,
    decide_eq_true_eq, decide_eq_false_iff_not, Int.toNat_natCast, Option.some.injEq, exists_eq_left', vcCond_T, vcCond_F]
    refine ⟨by simp; omega, ⟨U.n, ?_, hnU, ?_⟩, lo_grow hnU hk0 hr0 hwfU⟩
    · simp
    · simp [byteRow]
  clear f0 f3 hk0 hr0 fr k0
  rintro fr V ⟨⟨k0, f0, hk0, hr0⟩, f3, hL3⟩
  have hgV := hL3.box _ _ _ hgU
  have hwfV := hL3.bound hwfU
  have hnV : m ≤ V.n := by have := hL3.n; omega
  have hLV : Lo m S V := (hlo0.trans hL1).trans (hL2.trans hL3)
  -- the elements within
  have hne : ∀ (x : List UInt8), bs ++ [firstS e] ++ x ≠ [] := fun x h => by simp at h
  simp -implicitDefEqProofs only [f0, f3, vc_region, vc_quiet, vcD_nil, vcD_val, vcD_eff, vcD_guard, vcDOut, vcDEff, vcDGuard, saysAll, pendAll, pendNext, addPend, Says, vc_bad, vc_seq, vc_ret, vc_skip, vc_cond, vcCond, vc_block, vc_exit, vcGrps_nil, vcGrps_cons, vcGrps_guard, vcGuard, vcOps_nil, vcOps_cons, vcOut, KCall_ret, KCall_pan, skipF_nil, skipF_cons, Qseq_normal, Qseq_ret, Qseq_exit, Qseq_pan, Qblk_normal, Qblk_exit, Qblk_ret, Qblk_pan, Qpan_eq, Qcut_normal, Qcut_exit, Qcut_ret, Qcut_pan, Qloop_normal, Qloop_exit, Qloop_ret, Qloop_pan,
    stepOp, ev, upd_apply, putF, cellsOf, deref, faddrV, mk, abin, abinI, abinS, ibits, aeqb, aun, fldV, idxOf, elems, isPtr, putRef, splice, fillA, rowsA, minV, peqV, elemsA, rowBytes, strOf, Store.get_push, Store.get_set, Store.n_push, Store.n_set,
    Option.map_some, Option.map_none, reduceIte, Nat.reduceEqDiff, Nat.reduceAdd, Nat.reduceLeDiff, Nat.reduceLT, Nat.zero_add, Nat.add_zero, Nat.add_assoc, Nat.add_left_cancel_iff, Nat.left_eq_add, Nat.add_eq_left, Nat.lt_irrefl, Nat.le_refl,
    List.drop_zero, List.drop_succ_cons, List.take_succ_cons, List.take_zero, List.headD_cons, List.length_cons, List.length_nil, List.getElem?_cons_zero, List.getElem?_cons_succ, List.set_cons_zero, List.set_cons_succ, List.map_cons, List.map_nil,
    Bool.not_true, Bool.not_false, Bool.false_eq_true, Bool.true_eq_false, Bool.not_eq_true', Bool.not_eq_false', eq_self, false_imp_iff, true_imp_iff, and_true, true_and, and_false, false_and, or_true, true_or, initFr, fr0_at, Qend, resL, resV1, pack,
    decide_eq_true_eq, decide_eq_false_iff_not, Int.toNat_natCast, Option.some.injEq, exists_eq_left', vcCond_T, vcCond_F]
  refine vc_loop (fun n fr U => ∃ i, i + n = e.kids.length ∧ fr 3 = .ptr S.n 0 ∧ fr 8 = .int .i64 i ∧ U.get S.n = some (.box 24 [.int .i64 c, .int .i64 t, .bool e.cons, .str e.bytes, .sl 5 (encEs e.kids ++ e.ext) e.kids.length]) ∧
    OS m U (fr 0) (bs ++ [firstS e] ++ (lenS (e.bytes.length + sumS e.kids) ++ e.bytes ++ putSs (e.kids.take i))) ∧ Lo m S U) e.kids.length
    ⟨0, by simp, by simp [upd_apply, f3], rfl, hgV, .inr ⟨k0, hk0, hwfV _ _ hr0, by simp [upd_apply, f0, putSs]; omega, by simpa [putSs] using hr0⟩, hLV⟩ ?_
  clear f0 f3 hk0 hr0 fr k0 hgV hwfV hnV hLV hL1 hL2 hL3 hgU hwfU hnU hgT hwfT hnT
  rintro n fr U ⟨i, hin, f3, f8, hgU, hos, hLU⟩
  by_cases hlt : i < e.kids.length
  · obtain ⟨k, hk⟩ : ∃ k, e.kids[i]? = some k := ⟨_, List.getElem?_eq_getElem hlt⟩
    have hkm : k ∈ e.kids := List.mem_of_getElem? hk
    have hat := encEs_at e.kids e.ext i k hk
    have h0 : (0 : Int) ≤ i := by omega
    have hlt' : (i : Int) < e.kids.length := by omega
    unfold lenMax at hlen
    have hi1 : IntKind.i64.wrap ((i : Int) + 1) = i + 1 := w64 _ (by omega) (by omega)
    have hst : sumS (e.kids.take i) + sizeS k ≤ sumS e.kids := by
      have := sumS_take e.kids (i + 1)
      rw [take_succ hk, sumS_app] at this; exact this
    have hpl := putSs_length (e.kids.take i) fun x hx => hsk x (List.mem_of_mem_take hx)
    simp -implicitDefEqProofs only [f3, f8, hgU, hlt, hlt', h0, hat, encEs_take, encEs_length, encE_length, encE_take5, decide_true, vc_region, vc_quiet, vcD_nil, vcD_val, vcD_eff, vcD_guard, vcDOut, vcDEff, vcDGuard, saysAll, pendAll, pendNext, addPend, Says, vc_bad, vc_seq, vc_ret, vc_skip, vc_cond, vcCond, vc_block, vc_exit, vcGrps_nil, vcGrps_cons, vcGrps_guard, vcGuard, vcOps_nil, vcOps_cons, vcOut, KCall_ret, KCall_pan, skipF_nil, skipF_cons, Qseq_normal, Qseq_ret, Qseq_exit, Qseq_pan, Qblk_normal, Qblk_exit, Qblk_ret, Qblk_pan, Qpan_eq, Qcut_normal, Qcut_exit, Qcut_ret, Qcut_pan, Qloop_normal, Qloop_exit, Qloop_ret, Qloop_pan,
    stepOp, ev, upd_apply, putF, cellsOf, deref, faddrV, mk, abin, abinI, abinS, ibits, aeqb, aun, fldV, idxOf, elems, isPtr, putRef, splice, fillA, rowsA, minV, peqV, elemsA, rowBytes, strOf, Store.get_push, Store.get_set, Store.n_push, Store.n_set,
    Option.map_some, Option.map_none, reduceIte, Nat.reduceEqDiff, Nat.reduceAdd, Nat.reduceLeDiff, Nat.reduceLT, Nat.zero_add, Nat.add_zero, Nat.add_assoc, Nat.add_left_cancel_iff, Nat.left_eq_add, Nat.add_eq_left, Nat.lt_irrefl, Nat.le_refl,
    List.drop_zero, List.drop_succ_cons, List.take_succ_cons, List.take_zero, List.headD_cons, List.length_cons, List.length_nil, List.getElem?_cons_zero, List.getElem?_cons_succ, List.set_cons_zero, List.set_cons_succ, List.map_cons, List.map_nil,
    Bool.not_true, Bool.not_false, Bool.false_eq_true, Bool.true_eq_false, Bool.not_eq_true', Bool.not_eq_false', eq_self, false_imp_iff, true_imp_iff, and_true, true_and, and_false, false_and, or_true, true_or, initFr, fr0_at, Qend, resL, resV1, pack,
    decide_eq_true_eq, decide_eq_false_iff_not, Int.toNat_natCast, Option.some.injEq, exists_eq_left', vcCond_T, vcCond_F]
    intro _
    refine (ih k hkm (hks k hkm) (htags k hkm) (hsk k hkm) m U (fr 0) _ hos (by have := hLU.n; omega) (by simp only [List.length_append, List.length_cons, List.length_nil]; omega)).mono ?_
    rintro r U2 ⟨β', rfl, hos2, hL2⟩
    simp -implicitDefEqProofs only [f3, f8, hi1, vc_region, vc_quiet, vcD_nil, vcD_val, vcD_eff, vcD_guard, vcDOut, vcDEff, vcDGuard, saysAll, pendAll, pendNext, addPend, Says, vc_bad, vc_seq, vc_ret, vc_skip, vc_cond, vcCond, vc_block, vc_exit, vcGrps_nil, vcGrps_cons, vcGrps_guard, vcGuard, vcOps_nil, vcOps_cons, vcOut, KCall_ret, KCall_pan, skipF_nil, skipF_cons, Qseq_normal, Qseq_ret, Qseq_exit, Qseq_pan, Qblk_normal, Qblk_exit, Qblk_ret, Qblk_pan, Qpan_eq, Qcut_normal, Qcut_exit, Qcut_ret, Qcut_pan, Qloop_normal, Qloop_exit, Qloop_ret, Qloop_pan,
    stepOp, ev, upd_apply, putF, cellsOf, deref, faddrV, mk, abin, abinI, abinS, ibits, aeqb, aun, fldV, idxOf, elems, isPtr, putRef, splice, fillA, rowsA, minV, peqV, elemsA, rowBytes, strOf, Store.get_push, Store.get_set, Store.n_push, Store.n_set,
    Option.map_some, Option.map_none, reduceIte, Nat.reduceEqDiff, Nat.reduceAdd, Nat.reduceLeDiff, Nat.reduceLT, Nat.zero_add, Nat.add_zero, Nat.add_assoc, Nat.add_left_cancel_iff, Nat.left_eq_add, Nat.add_eq_left, Nat.lt_irrefl, Nat.le_refl,
    List.drop_zero, List.drop_succ_cons, List.take_succ_cons, List.take_zero, List.headD_cons, List.length_cons, List.length_nil, List.getElem?_cons_zero, List.getElem?_cons_succ, List.set_cons_zero, List.set_cons_succ, List.map_cons, List.map_nil,
    Bool.not_true, Bool.not_false, Bool.false_eq_true, Bool.true_eq_false, Bool.not_eq_true', Bool.not_eq_false', eq_self, false_imp_iff, true_imp_iff, and_true, true_and, and_false, false_and, or_true, true_or, initFr, fr0_at, Qend, resL, resV1, pack,
    decide_eq_true_eq, decide_eq_false_iff_not, Int.toNat_natCast, Option.some.injEq, exists_eq_left', vcCond_T, vcCond_F]
    exact ⟨n - 1, by omega, i + 1, by omega, by simp, hL2.box _ _ _ hgU, by rw [take_succ hk, putSs_app]; simpa using hos2, hLU.trans hL2⟩
  · have hlt' : ¬ (i : Int) < e.kids.length := by omega
    have hi : i = e.kids.length := by omega
    rw [hi, List.take_length] at hos
    simp -implicitDefEqProofs only [f3, f8, hgU, hlt', encEs_take, encEs_length, decide_false, vc_region, vc_quiet, vcD_nil, vcD_val, vcD_eff, vcD_guard, vcDOut, vcDEff, vcDGuard, saysAll, pendAll, pendNext, addPend, Says, vc_bad, vc_seq, vc_ret, vc_skip, vc_cond, vcCond, vc_block, vc_exit, vcGrps_nil, vcGrps_cons, vcGrps_guard, vcGuard, vcOps_nil, vcOps_cons, vcOut, KCall_ret, KCall_pan, skipF_nil, skipF_cons, Qseq_normal, Qseq_ret, Qseq_exit, Qseq_pan, Qblk_normal, Qblk_exit, Qblk_ret, Qblk_pan, Qpan_eq, Qcut_normal, Qcut_exit, Qcut_ret, Qcut_pan, Qloop_normal, Qloop_exit, Qloop_ret, Qloop_pan,
    stepOp, ev, upd_apply, putF, cellsOf, deref, faddrV, mk, abin, abinI, abinS, ibits, aeqb, aun, fldV, idxOf, elems, isPtr, putRef, splice, fillA, rowsA, minV, peqV, elemsA, rowBytes, strOf, Store.get_push, Store.get_set, Store.n_push, Store.n_set,
    Option.map_some, Option.map_none, reduceIte, Nat.reduceEqDiff, Nat.reduceAdd, Nat.reduceLeDiff, Nat.reduceLT, Nat.zero_add, Nat.add_zero, Nat.add_assoc, Nat.add_left_cancel_iff, Nat.left_eq_add, Nat.add_eq_left, Nat.lt_irrefl, Nat.le_refl,
    List.drop_zero, List.drop_succ_cons, List.take_succ_cons, List.take_zero, List.headD_cons, List.length_cons, List.length_nil, List.getElem?_cons_zero, List.getElem?_cons_succ, List.set_cons_zero, List.set_cons_succ, List.map_cons, List.map_nil,
    Bool.not_true, Bool.not_false, Bool.false_eq_true, Bool.true_eq_false, Bool.not_eq_true', Bool.not_eq_false', eq_self, false_imp_iff, true_imp_iff, and_true, true_and, and_false, false_and, or_true, true_or, initFr, fr0_at, Qend, resL, resV1, pack,
    decide_eq_true_eq, decide_eq_false_iff_not, Int.toNat_natCast, Option.some.injEq, exists_eq_left', vcCond_T, vcCond_F]
    intro _
    exact ⟨_, rfl, by simpa using hos, hLU⟩
end Go.Proofs.Ytmlllckecalaaaa.Eng

namespace Go.Proofs.Ytmlllckecalaaaa.Eng
open Go Go.Proofs.Try

theorem c16 (e : Elem) (hok : okE e) : Pure prog 16 [.agg (encE e)] (.tup [.str (writeS e).1, .int .i64 (writeS e).2]) := by
  refine Pure.of (fun _ _ => by simp only [nm, nmL, and_self]) fun S => ACalls.wf fun hwf _ => acalls_of_vc low16 (by simp) ?_
  have hx := (Ext.refl S).push
  have hsr := size_ref e
  simp -implicitDefEqProofs only [B16, encE_length, encE_take5, vc_region, vc_quiet, vcD_nil, vcD_val, vcD_eff, vcD_guard, vcDOut, vcDEff, vcDGuard, saysAll, pendAll, pendNext, addPend, Says, vc_bad, vc_seq, vc_ret, vc_skip, vc_cond, vcCond, vc_block, vc_exit, vcGrps_nil, vcGrps_cons, vcGrps_guard, vcGuard, vcOps_nil, vcOps_cons, vcOut, KCall_ret, KCall_pan, skipF_nil, skipF_cons, Qseq_normal, Qseq_ret, Qseq_exit, Qseq_pan, Qblk_normal, Qblk_exit, Qblk_ret, Qblk_pan, Qpan_eq, Qcut_normal, Qcut_exit, Qcut_ret, Qcut_pan, Qloop_normal, Qloop_exit, Qloop_ret, Qloop_pan,
    stepOp, ev, upd_apply, putF, cellsOf, deref, faddrV, mk, abin, abinI, abinS, ibits, aeqb, aun, fldV, idxOf, elems, isPtr, putRef, splice, fillA, rowsA, minV, peqV, elemsA, rowBytes, strOf, Store.get_push, Store.get_set, Store.n_push, Store.n_set,
    Option.map_some, Option.map_none, reduceIte, Nat.reduceEqDiff, Nat.reduceAdd, Nat.reduceLeDiff, Nat.reduceLT, Nat.zero_add, Nat.add_zero, Nat.add_assoc, Nat.add_left_cancel_iff, Nat.left_eq_add, Nat.add_eq_left, Nat.lt_irrefl, Nat.le_refl,
    List.drop_zero, List.drop_succ_cons, List.take_succ_cons, List.take_zero, List.headD_cons, List.length_cons, List.length_nil, List.getElem?_cons_zero, List.getElem?_cons_succ, List.set_cons_zero, List.set_cons_succ, List.map_cons, List.map_nil,
    Bool.not_true, Bool.not_false, Bool.false_eq_true, Bool.true_eq_false, Bool.not_eq_true', Bool.not_eq_false', eq_self, false_imp_iff, true_imp_iff, and_true, true_and, and_false, false_and, or_true, true_or, initFr, fr0_at, Qend, resL, resV1, pack,
    decide_eq_true_eq, decide_eq_false_iff_not, Int.toNat_natCast, Option.some.injEq, exists_eq_left', vcCond_T, vcCond_F]
  refine (c49 e 0 (by omega)).use ?_
  simp -implicitDefEqProofs only [encE_length, encE_take5, vc_region, vc_quiet, vcD_nil, vcD_val, vcD_eff, vcD_guard, vcDOut, vcDEff, vcDGuard, saysAll, pendAll, pendNext, addPend, Says, vc_bad, vc_seq, vc_ret, vc_skip, vc_cond, vcCond, vc_block, vc_exit, vcGrps_nil, vcGrps_cons, vcGrps_guard, vcGuard, vcOps_nil, vcOps_cons, vcOut, KCall_ret, KCall_pan, skipF_nil, skipF_cons, Qseq_normal, Qseq_ret, Qseq_exit, Qseq_pan, Qblk_normal, Qblk_exit, Qblk_ret, Qblk_pan, Qpan_eq, Qcut_normal, Qcut_exit, Qcut_ret, Qcut_pan, Qloop_normal, Qloop_exit, Qloop_ret, Qloop_pan,
    stepOp, ev, upd_apply, putF, cellsOf, deref, faddrV, mk, abin, abinI, abinS, ibits, aeqb, aun, fldV, idxOf, elems, isPtr, putRef, splice, fillA, rowsA, minV, peqV, elemsA, rowBytes, strOf, Store.get_push, Store.get_set, Store.n_push, Store.n_set,
    Option.map_some, Option.map_none, reduceIte, Nat.reduceEqDiff, Nat.reduceAdd, Nat.reduceLeDiff, Nat.reduceLT, Nat.zero_add, Nat.add_zero, Nat.add_assoc, Nat.add_left_cancel_iff, Nat.left_eq_add, Nat.add_eq_left, Nat.lt_irrefl, Nat.le_refl,
    List.drop_zero, List.drop_succ_cons, List.take_succ_cons, List.take_zero, List.headD_cons, List.length_cons, List.length_nil, List.getElem?_cons_zero, List.getElem?_cons_succ, List.set_cons_zero, List.set_cons_succ, List.map_cons, List.map_nil,
    Bool.not_true, Bool.not_false, Bool.false_eq_true, Bool.true_eq_false, Bool.not_eq_true', Bool.not_eq_false', eq_self, false_imp_iff, true_imp_iff, and_true, true_and, and_false, false_and, or_true, true_or, initFr, fr0_at, Qend, resL, resV1, pack,
    decide_eq_true_eq, decide_eq_false_iff_not, Int.toNat_natCast, Option.some.injEq, exists_eq_left', vcCond_T, vcCond_F]
  refine ⟨fun h => ⟨by simp [writeS, h], hx _⟩, fun h1 => ⟨fun h => ⟨by simp [writeS, h1, h], hx _⟩, fun h2 => ⟨fun h => ⟨by simp [writeS, h1, h2, h], hx _⟩, fun h3 => ?_⟩⟩⟩
  refine (c50 e hok).use ?_
  simp -implicitDefEqProofs only [encE_length, encE_take5, vc_region, vc_quiet, vcD_nil, vcD_val, vcD_eff, vcD_guard, vcDOut, vcDEff, vcDGuard, saysAll, pendAll, pendNext, addPend, Says, vc_bad, vc_seq, vc_ret, vc_skip, vc_cond, vcCond, vc_block, vc_exit, vcGrps_nil, vcGrps_cons, vcGrps_guard, vcGuard, vcOps_nil, vcOps_cons, vcOut, KCall_ret, KCall_pan, skipF_nil, skipF_cons, Qseq_normal, Qseq_ret, Qseq_exit, Qseq_pan, Qblk_normal, Qblk_exit, Qblk_ret, Qblk_pan, Qpan_eq, Qcut_normal, Qcut_exit, Qcut_ret, Qcut_pan, Qloop_normal, Qloop_exit, Qloop_ret, Qloop_pan,
    stepOp, ev, upd_apply, putF, cellsOf, deref, faddrV, mk, abin, abinI, abinS, ibits, aeqb, aun, fldV, idxOf, elems, isPtr, putRef, splice, fillA, rowsA, minV, peqV, elemsA, rowBytes, strOf, Store.get_push, Store.get_set, Store.n_push, Store.n_set,
    Option.map_some, Option.map_none, reduceIte, Nat.reduceEqDiff, Nat.reduceAdd, Nat.reduceLeDiff, Nat.reduceLT, Nat.zero_add, Nat.add_zero, Nat.add_assoc, Nat.add_left_cancel_iff, Nat.left_eq_add, Nat.add_eq_left, Nat.lt_irrefl, Nat.le_refl,
    List.drop_zero, List.drop_succ_cons, List.take_succ_cons, List.take_zero, List.headD_cons, List.length_cons, List.length_nil, List.getElem?_cons_zero, List.getElem?_cons_succ, List.set_cons_zero, List.set_cons_succ, List.map_cons, List.map_nil,
    Bool.not_true, Bool.not_false, Bool.false_eq_true, Bool.true_eq_false, Bool.not_eq_true', Bool.not_eq_false', eq_self, false_imp_iff, true_imp_iff, and_true, true_and, and_false, false_and, or_true, true_or, initFr, fr0_at, Qend, resL, resV1, pack,
    decide_eq_true_eq, decide_eq_false_iff_not, Int.toNat_natCast, Option.some.injEq, exists_eq_left', vcCond_T, vcCond_F]
  have hlong : (rsizeS e : Int) > 65536 → writeS e = ([], 2) := fun h => by
    have : sizeS e > 65536 := by omega
    simp [writeS, h1, h2, h3, this]
  refine ⟨fun h => ⟨by rw [hlong h], hx _⟩, fun h4 => ?_⟩
  have h4' : sizeS e ≤ 65536 := by omega
  refine (c51 e hok (allTag_of e 0 h1 h3) h4' S.n _ (.lit (.slice none 0 0)) [] (.inl ⟨rfl, rfl⟩) (by simp [Store.n_push]) (by simp; omega)).mono ?_
  rintro r S2 ⟨β', rfl, hos, hL⟩
  have hw : writeS e = (putS e, 0) := by
    have : ¬ sizeS e > 65536 := by omega
    simp [writeS, h1, h2, h3, this]
  have hE : Ext S S2 := ⟨by have := hL.n; rw [Store.n_push] at this; omega, fun j hj => by rw [hL.get j hj, Store.get_push_ne _ _ (by omega)]⟩
  rw [hw]
  rcases hos with ⟨_, h⟩ | ⟨k, hk1, hk2, rfl, hrow⟩
  · exact absurd h (putS_ne e)
  · simp only [List.nil_append] at hrow
    have htk : (byteRow (putS e)).take (putS e).length = byteRow (putS e) := by rw [← byteRow_length (putS e)]; exact List.take_length ..
    simp -implicitDefEqProofs only [hrow, byteRow_length, List.nil_append, htk, bytesOf_byteRow, vc_region, vc_quiet, vcD_nil, vcD_val, vcD_eff, vcD_guard, vcDOut, vcDEff, vcDGuard, saysAll, pendAll, pendNext, addPend, Says, vc_bad, vc_seq, vc_ret, vc_skip, vc_cond, vcCond, vc_block, vc_exit, vcGrps_nil, vcGrps_cons, vcGrps_guard, vcGuard, vcOps_nil, vcOps_cons, vcOut, KCall_ret, KCall_pan, skipF_nil, skipF_cons, Qseq_normal, Qseq_ret, Qseq_exit, Qseq_pan, Qblk_normal, Qblk_exit, Qblk_ret, Qblk_pan, Qpan_eq, Qcut_normal, Qcut_exit, Qcut_ret, Qcut_pan, Qloop_normal, Qloop_exit, Qloop_ret, Qloop_pan,
    stepOp, ev, upd_apply, putF, cellsOf, deref, faddrV, mk, abin, abinI, abinS, ibits, aeqb, aun, fldV, idxOf, elems, isPtr, putRef, splice, fillA, rowsA, minV, peqV, elemsA, rowBytes, strOf, Store.get_push, Store.get_set, Store.n_push, Store.n_set,
    Option.map_some, Option.map_none, reduceIte, Nat.reduceEqDiff, Nat.reduceAdd, Nat.reduceLeDiff, Nat.reduceLT, Nat.zero_add, Nat.add_zero, Nat.add_assoc, Nat.add_left_cancel_iff, Nat.left_eq_add, Nat.add_eq_left, Nat.lt_irrefl, Nat.le_refl,
    List.drop_zero, List.drop_succ_cons, List.take_succ_cons, List.take_zero, List.headD_cons, List.length_cons, List.length_nil, List.getElem?_cons_zero, List.getElem?_cons_succ, List.set_cons_zero, List.set_cons_succ, List.map_cons, List.map_nil,
    Bool.not_true, Bool.not_false, Bool.false_eq_true, Bool.true_eq_false, Bool.not_eq_true', Bool.not_eq_false', eq_self, false_imp_iff, true_imp_iff, and_true, true_and, and_false, false_and, or_true, true_or, initFr, fr0_at, Qend, resL, resV1, pack,
    decide_eq_true_eq, decide_eq_false_iff_not, Int.toNat_natCast, Option.some.injEq, exists_eq_left', vcCond_T, vcCond_F]
    exact hE

theorem sameSs_len : ∀ (a b : List Elem), a.length ≠ b.length → sameSs a b = false
  | [], [], h => absurd rfl h
  | [], _ :: _, _ => by simp [sameSs]
  | _ :: _, [], _ => by simp [sameSs]
  | x :: a, y :: b, h => by simp only [sameSs, sameSs_len a b (by simpa using h), Bool.and_false]
theorem sameSs_at : ∀ (a b : List Elem) (i : Nat) (k x : Elem), a[i]? = some k → b[i]? = some x → sameS k x = false → sameSs a b = false
  | [], _, i, k, x, h, _, _ => by simp at h
  | _ :: _, [], i, k, x, _, h, _ => by simp at h
  | p :: a, q :: b, 0, k, x, h, h', hs => by simp at h h'; subst h; subst h'; simp [sameSs, hs]
  | p :: a, q :: b, i + 1, k, x, h, h', hs => by simp at h h'; simp [sameSs, sameSs_at a b i k x h h' hs]
theorem sameSs_app : ∀ (a b : List Elem) (k x : Elem), a.length = b.length → sameSs (a ++ [k]) (b ++ [x]) = (sameSs a b && sameS k x)
  | [], [], k, x, _ => by simp [sameSs]
  | [], _ :: _, k, x, h => by simp at h
  | _ :: _, [], k, x, h => by simp at h
  | p :: a, q :: b, k, x, h => by simp only [List.cons_append, sameSs, sameSs_app a b k x (by simpa using h), Bool.and_assoc]

theorem c17 : ∀ (a b : Elem), Pure prog 17 [.agg (encE a), .agg (encE b)] (.bool (sameS a b)) := by
  intro a
  induction a using Elem.ind with
  | h a ih =>
  intro b
  refine Pure.of (fun _ _ => by simp only [nm]) fun S => acalls_of_vc low17 (by simp) ?_
  rw [sameS_eta]
  obtain ⟨xa, hxa⟩ : ∃ bx, bx = AObj.box 24 [AV.int .i64 a.cls, .int .i64 a.tag, .bool a.cons, .str a.bytes, .sl 5 (encEs a.kids ++ a.ext) a.kids.length] := ⟨_, rfl⟩
  obtain ⟨xb, hxb⟩ : ∃ bx, bx = AObj.box 24 [AV.int .i64 b.cls, .int .i64 b.tag, .bool b.cons, .str b.bytes, .sl 5 (encEs b.kids ++ b.ext) b.kids.length] := ⟨_, rfl⟩
  unfold B17
  refine vc_cut (fun fr T => fr 2 = .ptr S.n 0 ∧ fr 3 = .ptr (S.n + 1) 0 ∧ T.get S.n = some xa ∧ T.get (S.n + 1) = some xb ∧ Ext S T) ?_ ?_
  · rw [encE_eta a, encE_eta b]
    simp -implicitDefEqProofs only [vc_region, vc_quiet, vcD_nil, vcD_val, vcD_eff, vcD_guard, vcDOut, vcDEff, vcDGuard, saysAll, pendAll, pendNext, addPend, Says, vc_bad, vc_seq, vc_ret, vc_skip, vc_cond, vcCond, vc_block, vc_exit, vcGrps_nil, vcGrps_cons, vcGrps_guard, vcGuard, vcOps_nil, vcOps_cons, vcOut, KCall_ret, KCall_pan, skipF_nil, skipF_cons, Qseq_normal, Qseq_ret, Qseq_exit, Qseq_pan, Qblk_normal, Qblk_exit, Qblk_ret, Qblk_pan, Qpan_eq, Qcut_normal, Qcut_exit, Qcut_ret, Qcut_pan, Qloop_normal, Qloop_exit, Qloop_ret, Qloop_pan,
    stepOp, ev, upd_apply, putF, cellsOf, deref, faddrV, mk, abin, abinI, abinS, ibits, aeqb, aun, fldV, idxOf, elems, isPtr, putRef, splice, fillA, rowsA, minV, peqV, elemsA, rowBytes, strOf, Store.get_push, Store.get_set, Store.n_push, Store.n_set,
    Option.map_some, Option.map_none, reduceIte, Nat.reduceEqDiff, Nat.reduceAdd, Nat.reduceLeDiff, Nat.reduceLT, Nat.zero_add, Nat.add_zero, Nat.add_assoc, Nat.add_left_cancel_iff, Nat.left_eq_add, Nat.add_eq_left, Nat.lt_irrefl, Nat.le_refl,
    List.drop_zero, List.drop_succ_cons, List.take_succ_cons, List.take_zero, List.headD_cons, List.length_cons, List.length_nil, List.getElem?_cons_zero, List.getElem?_cons_succ, List.set_cons_zero, List.set_cons_succ, List.map_cons, List.map_nil,
    Bool.not_true, Bool.not_false, Bool.false_eq_true, Bool.true_eq_false, Bool.not_eq_true', Bool.not_eq_false', eq_self, false_imp_iff, true_imp_iff, and_true, true_and, and_false, false_and, or_true, true_or, initFr, fr0_at, Qend, resL, resV1, pack,
    decide_eq_true_eq, decide_eq_false_iff_not, Int.toNat_natCast, Option.some.injEq, exists_eq_left', vcCond_T, vcCond_F]
    rw [hxa, hxb]
    exact ⟨by simp, rfl, ((Ext.refl S).push _).push _⟩
  rintro fr T ⟨f2, f3, ga, gb, hE⟩
  have ga' := ga
  have gb' := gb
  rw [hxa] at ga
  rw [hxb] at gb
  refine vc_cut (fun fr T => fr 2 = .ptr S.n 0 ∧ fr 3 = .ptr (S.n + 1) 0 ∧ T.get S.n = some xa ∧ T.get (S.n + 1) = some xb ∧ Ext S T ∧ a.cls = b.cls ∧ a.tag = b.tag ∧ a.cons = b.cons ∧ a.bytes = b.bytes ∧ a.kids.length = b.kids.length) ?_ ?_
  · simp -implicitDefEqProofs only [f2, f3, ga, gb, encEs_take, encEs_length, vc_region, vc_quiet, vcD_nil, vcD_val, vcD_eff, vcD_guard, vcDOut, vcDEff, vcDGuard, saysAll, pendAll, pendNext, addPend, Says, vc_bad, vc_seq, vc_ret, vc_skip, vc_cond, vcCond, vc_block, vc_exit, vcGrps_nil, vcGrps_cons, vcGrps_guard, vcGuard, vcOps_nil, vcOps_cons, vcOut, KCall_ret, KCall_pan, skipF_nil, skipF_cons, Qseq_normal, Qseq_ret, Qseq_exit, Qseq_pan, Qblk_normal, Qblk_exit, Qblk_ret, Qblk_pan, Qpan_eq, Qcut_normal, Qcut_exit, Qcut_ret, Qcut_pan, Qloop_normal, Qloop_exit, Qloop_ret, Qloop_pan,
    stepOp, ev, upd_apply, putF, cellsOf, deref, faddrV, mk, abin, abinI, abinS, ibits, aeqb, aun, fldV, idxOf, elems, isPtr, putRef, splice, fillA, rowsA, minV, peqV, elemsA, rowBytes, strOf, Store.get_push, Store.get_set, Store.n_push, Store.n_set,
    Option.map_some, Option.map_none, reduceIte, Nat.reduceEqDiff, Nat.reduceAdd, Nat.reduceLeDiff, Nat.reduceLT, Nat.zero_add, Nat.add_zero, Nat.add_assoc, Nat.add_left_cancel_iff, Nat.left_eq_add, Nat.add_eq_left, Nat.lt_irrefl, Nat.le_refl,
    List.drop_zero, List.drop_succ_cons, List.take_succ_cons, List.take_zero, List.headD_cons, List.length_cons, List.length_nil, List.getElem?_cons_zero, List.getElem?_cons_succ, List.set_cons_zero, List.set_cons_succ, List.map_cons, List.map_nil,
    Bool.not_true, Bool.not_false, Bool.false_eq_true, Bool.true_eq_false, Bool.not_eq_true', Bool.not_eq_false', eq_self, false_imp_iff, true_imp_iff, and_true, true_and, and_false, false_and, or_true, true_or, initFr, fr0_at, Qend, resL, resV1, pack,
    decide_eq_true_eq, decide_eq_false_iff_not, Int.toNat_natCast, Option.some.injEq, exists_eq_left', vcCond_T, vcCond_F]
    exact ⟨fun h1 => ⟨fun h2 => ⟨fun h3 => ⟨fun h4 _ _ => ⟨fun h5 => ⟨by rw [sameSs_len _ _ (by omega)]; simp, hE⟩, fun h5 => ⟨hxa.symm, hxb.symm, hE, by simpa using h1, by simpa using h2, by simpa using h3, by simpa using h4, by omega⟩⟩,
      fun h4 => ⟨by simp [h4], hE⟩⟩, fun h3 => ⟨by simp [h3], hE⟩⟩, fun h2 => ⟨by simp [h2], hE⟩⟩, fun h1 => ⟨by simp [h1], hE⟩⟩
  clear f2 f3 ga gb ga' gb' hE fr T
  rintro fr T ⟨f2, f3, ga, gb, hE, h1, h2, h3, h4, h5⟩
  have hred : (decide (a.cls = b.cls) && (decide (a.tag = b.tag) && (decide (a.cons = b.cons) && (decide (a.bytes = b.bytes) && sameSs a.kids b.kids)))) = sameSs a.kids b.kids := by simp [h1, h2, h3, h4]
  rw [hred]
  simp -implicitDefEqProofs only [f2, f3, vc_region, vc_quiet, vcD_nil, vcD_val, vcD_eff, vcD_guard, vcDOut, vcDEff, vcDGuard, saysAll, pendAll, pendNext, addPend, Says, vc_bad, vc_seq, vc_ret, vc_skip, vc_cond, vcCond, vc_block, vc_exit, vcGrps_nil, vcGrps_cons, vcGrps_guard, vcGuard, vcOps_nil, vcOps_cons, vcOut, KCall_ret, KCall_pan, skipF_nil, skipF_cons, Qseq_normal, Qseq_ret, Qseq_exit, Qseq_pan, Qblk_normal, Qblk_exit, Qblk_ret, Qblk_pan, Qpan_eq, Qcut_normal, Qcut_exit, Qcut_ret, Qcut_pan, Qloop_normal, Qloop_exit, Qloop_ret, Qloop_pan,
    stepOp, ev, upd_apply, putF, cellsOf, deref, faddrV, mk, abin, abinI, abinS, ibits, aeqb, aun, fldV, idxOf, elems, isPtr, putRef, splice, fillA, rowsA, minV, peqV, elemsA, rowBytes, strOf, Store.get_push, Store.get_set, Store.n_push, Store.n_set,
    Option.map_some, Option.map_none, reduceIte, Nat.reduceEqDiff, Nat.reduceAdd, Nat.reduceLeDiff, Nat.reduceLT, Nat.zero_add, Nat.add_zero, Nat.add_assoc, Nat.add_left_cancel_iff, Nat.left_eq_add, Nat.add_eq_left, Nat.lt_irrefl, Nat.le_refl,
    List.drop_zero, List.drop_succ_cons, List.take_succ_cons, List.take_zero, List.headD_cons, List.length_cons, List.length_nil, List.getElem?_cons_zero, List.getElem?_cons_succ, List.set_cons_zero, List.set_cons_succ, List.map_cons, List.map_nil,
    Bool.not_true, Bool.not_false, Bool.false_eq_true, Bool.true_eq_false, Bool.not_eq_true', Bool.not_eq_false', eq_self, false_imp_iff, true_imp_iff, and_true, true_and, and_false, false_and, or_true, true_or, initFr, fr0_at, Qend, resL, resV1, pack,
    decide_eq_true_eq, decide_eq_false_iff_not, Int.toNat_natCast, Option.some.injEq, exists_eq_left', vcCond_T, vcCond_F]
  refine vc_loop (fun n fr T => ∃ i, i + n = a.kids.length ∧ fr 2 = .ptr S.n 0 ∧ fr 3 = .ptr (S.n + 1) 0 ∧ T.get S.n = some xa ∧ T.get (S.n + 1) = some xb ∧ Ext S T ∧ fr 5 = .int .i64 i ∧ sameSs (a.kids.take i) (b.kids.take i) = true) a.kids.length
    ⟨0, by simp, by simp [upd_apply, f2], by simp [upd_apply, f3], ga, gb, hE, rfl, rfl⟩ ?_
  clear f2 f3 ga gb hE fr T
  rintro n fr T ⟨i, hin, f2, f3, ga, gb, hE, f5, hs⟩
  have ga' := ga
  have gb' := gb
  rw [hxa] at ga
  rw [hxb] at gb
  by_cases hlt : i < a.kids.length
  · obtain ⟨k, hk⟩ : ∃ k, a.kids[i]? = some k := ⟨_, List.getElem?_eq_getElem hlt⟩
    obtain ⟨x, hx⟩ : ∃ k, b.kids[i]? = some k := ⟨_, List.getElem?_eq_getElem (by omega)⟩
    have hkm : k ∈ a.kids := List.mem_of_getElem? hk
    have hat := encEs_at a.kids a.ext i k hk
    have hbt := encEs_at b.kids b.ext i x hx
    have h0 : (0 : Int) ≤ i := by omega
    have hlt' : (i : Int) < a.kids.length := by omega
    have hltb : i < b.kids.length := by omega
    simp -implicitDefEqProofs only [f2, f3, f5, ga, gb, hlt, hlt', hltb, h0, hat, hbt, encEs_take, encEs_length, encE_length, encE_take5, decide_true, vc_region, vc_quiet, vcD_nil, vcD_val, vcD_eff, vcD_guard, vcDOut, vcDEff, vcDGuard, saysAll, pendAll, pendNext, addPend, Says, vc_bad, vc_seq, vc_ret, vc_skip, vc_cond, vcCond, vc_block, vc_exit, vcGrps_nil, vcGrps_cons, vcGrps_guard, vcGuard, vcOps_nil, vcOps_cons, vcOut, KCall_ret, KCall_pan, skipF_nil, skipF_cons, Qseq_normal, Qseq_ret, Qseq_exit, Qseq_pan, Qblk_normal, Qblk_exit, Qblk_ret, Qblk_pan, Qpan_eq, Qcut_normal, Qcut_exit, Qcut_ret, Qcut_pan, Qloop_normal, Qloop_exit, Qloop_ret, Qloop_pan,
    stepOp, ev, upd_apply, putF, cellsOf, deref, faddrV, mk, abin, abinI, abinS, ibits, aeqb, aun, fldV, idxOf, elems, isPtr, putRef, splice, fillA, rowsA, minV, peqV, elemsA, rowBytes, strOf, Store.get_push, Store.get_set, Store.n_push, Store.n_set,
    Option.map_some, Option.map_none, reduceIte, Nat.reduceEqDiff, Nat.reduceAdd, Nat.reduceLeDiff, Nat.reduceLT, Nat.zero_add, Nat.add_zero, Nat.add_assoc, Nat.add_left_cancel_iff, Nat.left_eq_add, Nat.add_eq_left, Nat.lt_irrefl, Nat.le_refl,
    List.drop_zero, List.drop_succ_cons, List.take_succ_cons, List.take_zero, List.headD_cons, List.length_cons, List.length_nil, List.getElem?_cons_zero, List.getElem?_cons_succ, List.set_cons_zero, List.set_cons_succ, List.map_cons, List.map_nil,
    Bool.not_true, Bool.not_false, Bool.false_eq_true, Bool.true_eq_false, Bool.not_eq_true', Bool.not_eq_false', eq_self, false_imp_iff, true_imp_iff, and_true, true_and, and_false, false_and, or_true, true_or, initFr, fr0_at, Qend, resL, resV1, pack,
    decide_eq_true_eq, decide_eq_false_iff_not, Int.toNat_natCast, Option.some.injEq, exists_eq_left', vcCond_T, vcCond_F]
    intro hlen
    unfold lenMax at hlen
    have hi1 : IntKind.i64.wrap ((i : Int) + 1) = i + 1 := w64 _ (by omega) (by omega)
    refine ⟨_, ih k hkm x, ?_⟩
    simp -implicitDefEqProofs only [f2, f3, f5, hi1, vc_region, vc_quiet, vcD_nil, vcD_val, vcD_eff, vcD_guard, vcDOut, vcDEff, vcDGuard, saysAll, pendAll, pendNext, addPend, Says, vc_bad, vc_seq, vc_ret, vc_skip, vc_cond, vcCond, vc_block, vc_exit, vcGrps_nil, vcGrps_cons, vcGrps_guard, vcGuard, vcOps_nil, vcOps_cons, vcOut, KCall_ret, KCall_pan, skipF_nil, skipF_cons, Qseq_normal, Qseq_ret, Qseq_exit, Qseq_pan, Qblk_normal, Qblk_exit, Qblk_ret, Qblk_pan, Qpan_eq, Qcut_normal, Qcut_exit, Qcut_ret, Qcut_pan, Qloop_normal, Qloop_exit, Qloop_ret, Qloop_pan,
    stepOp, ev, upd_apply, putF, cellsOf, deref, faddrV, mk, abin, abinI, abinS, ibits, aeqb, aun, fldV, idxOf, elems, isPtr, putRef, splice, fillA, rowsA, minV, peqV, elemsA, rowBytes, strOf, Store.get_push, Store.get_set, Store.n_push, Store.n_set,
    Option.map_some, Option.map_none, reduceIte, Nat.reduceEqDiff, Nat.reduceAdd, Nat.reduceLeDiff, Nat.reduceLT, Nat.zero_add, Nat.add_zero, Nat.add_assoc, Nat.add_left_cancel_iff, Nat.left_eq_add, Nat.add_eq_left, Nat.lt_irrefl, Nat.le_refl,
    List.drop_zero, List.drop_succ_cons, List.take_succ_cons, List.take_zero, List.headD_cons, List.length_cons, List.length_nil, List.getElem?_cons_zero, List.getElem?_cons_succ, List.set_cons_zero, List.set_cons_succ, List.map_cons, List.map_nil,
    Bool.not_true, Bool.not_false, Bool.false_eq_true, Bool.true_eq_false, Bool.not_eq_true', Bool.not_eq_false', eq_self, false_imp_iff, true_imp_iff, and_true, true_and, and_false, false_and, or_true, true_or, initFr, fr0_at, Qend, resL, resV1, pack,
    decide_eq_true_eq, decide_eq_false_iff_not, Int.toNat_natCast, Option.some.injEq, exists_eq_left', vcCond_T, vcCond_F]
    refine ⟨fun h => ⟨by rw [sameSs_at _ _ _ _ _ hk hx h], hE⟩, fun h => ⟨n - 1, by omega, i + 1, by omega, hxa.symm, hxb.symm, hE, by simp, ?_⟩⟩
    rw [take_succ hk, take_succ hx, sameSs_app _ _ _ _ (by simp; omega), hs, h]; rfl
  · have hlt' : ¬ (i : Int) < a.kids.length := by omega
    have hi : i = a.kids.length := by omega
    rw [hi, List.take_length, h5, List.take_length] at hs
    simp -implicitDefEqProofs only [f2, f3, f5, ga, gb, hlt', encEs_take, encEs_length, decide_false, vc_region, vc_quiet, vcD_nil, vcD_val, vcD_eff, vcD_guard, vcDOut, vcDEff, vcDGuard, saysAll, pendAll, pendNext, addPend, Says, vc_bad, vc_seq, vc_ret, vc_skip, vc_cond, vcCond, vc_block, vc_exit, vcGrps_nil, vcGrps_cons, vcGrps_guard, vcGuard, vcOps_nil, vcOps_cons, vcOut, KCall_ret, KCall_pan, skipF_nil, skipF_cons, Qseq_normal, Qseq_ret, Qseq_exit, Qseq_pan, Qblk_normal, Qblk_exit, Qblk_ret, Qblk_pan, Qpan_eq, Qcut_normal, Qcut_exit, Qcut_ret, Qcut_pan, Qloop_normal, Qloop_exit, Qloop_ret, Qloop_pan,
    stepOp, ev, upd_apply, putF, cellsOf, deref, faddrV, mk, abin, abinI, abinS, ibits, aeqb, aun, fldV, idxOf, elems, isPtr, putRef, splice, fillA, rowsA, minV, peqV, elemsA, rowBytes, strOf, Store.get_push, Store.get_set, Store.n_push, Store.n_set,
    Option.map_some, Option.map_none, reduceIte, Nat.reduceEqDiff, Nat.reduceAdd, Nat.reduceLeDiff, Nat.reduceLT, Nat.zero_add, Nat.add_zero, Nat.add_assoc, Nat.add_left_cancel_iff, Nat.left_eq_add, Nat.add_eq_left, Nat.lt_irrefl, Nat.le_refl,
    List.drop_zero, List.drop_succ_cons, List.take_succ_cons, List.take_zero, List.headD_cons, List.length_cons, List.length_nil, List.getElem?_cons_zero, List.getElem?_cons_succ, List.set_cons_zero, List.set_cons_succ, List.map_cons, List.map_nil,
    Bool.not_true, Bool.not_false, Bool.false_eq_true, Bool.true_eq_false, Bool.not_eq_true', Bool.not_eq_false', eq_self, false_imp_iff, true_imp_iff, and_true, true_and, and_false, false_and, or_true, true_or, initFr, fr0_at, Qend, resL, resV1, pack,
    decide_eq_true_eq, decide_eq_false_iff_not, Int.toNat_natCast, Option.some.injEq, exists_eq_left', vcCond_T, vcCond_F]
    intro _
    exact ⟨by rw [hs], hE⟩
end Go.Proofs.Ytmlllckecalaaaa.Eng

namespace Go.Proofs.Ytmlllckecalaaaa.Eng
open Go Go.Proofs.Try

theorem lentSs_length : ∀ (ks : List Elem), (lentSs ks).length = ks.length
  | [] => rfl
  | k :: ks => by simp only [lentSs, List.length_cons, lentSs_length ks]
theorem lentSs_get : ∀ (ks : List Elem) (i : Nat) (k : Elem), ks[i]? = some k → (lentSs ks)[i]? = some (lentS k)
  | k :: ks, 0, x, h => by simp at h; subst h; simp [lentSs]
  | k :: ks, i + 1, x, h => by simp only [List.getElem?_cons_succ] at h; simp only [lentSs, List.getElem?_cons_succ]; exact lentSs_get ks i x h
theorem lentS_eta (e : Elem) : lentS e = .mk e.cls e.tag e.cons e.bytes (lentSs e.kids) [marker] := by cases e; rfl

theorem c18 : ∀ (e : Elem), Pure prog 18 [.agg (encE (lentS e))] (.bool true) := by
  intro e
  induction e using Elem.ind with
  | h e ih =>
  refine Pure.of (fun _ _ => by simp only [nm]) fun S => acalls_of_vc low18 (by simp) ?_
  obtain ⟨bx, hbx⟩ : ∃ bx, bx = AObj.box 24 [AV.int .i64 e.cls, .int .i64 e.tag, .bool e.cons, .str e.bytes, .sl 5 (encEs (lentSs e.kids) ++ [marker]) e.kids.length] := ⟨_, rfl⟩
  have hx := (Ext.refl S).push
  have hl : (S.push bx).get S.n = some bx := Store.get_push_same S bx
  have htk : (encEs (lentSs e.kids) ++ [marker]).take e.kids.length = encEs (lentSs e.kids) := by
    have := encEs_take (lentSs e.kids) [marker]; rwa [lentSs_length] at this
  have hln : (encEs (lentSs e.kids)).length = e.kids.length := by rw [encEs_length, lentSs_length]
  rw [lentS_eta, encE, lentSs_length]
  simp -implicitDefEqProofs only [B18, vc_region, vc_quiet, vcD_nil, vcD_val, vcD_eff, vcD_guard, vcDOut, vcDEff, vcDGuard, saysAll, pendAll, pendNext, addPend, Says, vc_bad, vc_seq, vc_ret, vc_skip, vc_cond, vcCond, vc_block, vc_exit, vcGrps_nil, vcGrps_cons, vcGrps_guard, vcGuard, vcOps_nil, vcOps_cons, vcOut, KCall_ret, KCall_pan, skipF_nil, skipF_cons, Qseq_normal, Qseq_ret, Qseq_exit, Qseq_pan, Qblk_normal, Qblk_exit, Qblk_ret, Qblk_pan, Qpan_eq, Qcut_normal, Qcut_exit, Qcut_ret, Qcut_pan, Qloop_normal, Qloop_exit, Qloop_ret, Qloop_pan,
    stepOp, ev, upd_apply, putF, cellsOf, deref, faddrV, mk, abin, abinI, abinS, ibits, aeqb, aun, fldV, idxOf, elems, isPtr, putRef, splice, fillA, rowsA, minV, peqV, elemsA, rowBytes, strOf, Store.get_push, Store.get_set, Store.n_push, Store.n_set,
    Option.map_some, Option.map_none, reduceIte, Nat.reduceEqDiff, Nat.reduceAdd, Nat.reduceLeDiff, Nat.reduceLT, Nat.zero_add, Nat.add_zero, Nat.add_assoc, Nat.add_left_cancel_iff, Nat.left_eq_add, Nat.add_eq_left, Nat.lt_irrefl, Nat.le_refl,
    List.drop_zero, List.drop_succ_cons, List.take_succ_cons, List.take_zero, List.headD_cons, List.length_cons, List.length_nil, List.getElem?_cons_zero, List.getElem?_cons_succ, List.set_cons_zero, List.set_cons_succ, List.map_cons, List.map_nil,
    Bool.not_true, Bool.not_false, Bool.false_eq_true, Bool.true_eq_false, Bool.not_eq_true', Bool.not_eq_false', eq_self, false_imp_iff, true_imp_iff, and_true, true_and, and_false, false_and, or_true, true_or, initFr, fr0_at, Qend, resL, resV1, pack,
    decide_eq_true_eq, decide_eq_false_iff_not, Int.toNat_natCast, Option.some.injEq, exists_eq_left', vcCond_T, vcCond_F]
  rw [← hbx]
  refine vc_loop (fun n fr T => ∃ i, i + n = e.kids.length ∧ fr 1 = .ptr S.n 0 ∧ T.get S.n = some bx ∧ Ext S T ∧ fr 3 = .int .i64 i) e.kids.length ⟨0, by simp, rfl, hl, hx _, rfl⟩ ?_
  rintro n fr T ⟨i, hin, f1, hg, hE, f3⟩
  have hg0 := hg
  rw [hbx] at hg
  by_cases hlt : i < e.kids.length
  · obtain ⟨k, hk⟩ : ∃ k, e.kids[i]? = some k := ⟨_, List.getElem?_eq_getElem hlt⟩
    have hkm : k ∈ e.kids := List.mem_of_getElem? hk
    have hat := encEs_at (lentSs e.kids) [marker] i _ (lentSs_get _ _ _ hk)
    have h0 : (0 : Int) ≤ i := by omega
    have hlt' : (i : Int) < e.kids.length := by omega
    simp -implicitDefEqProofs only [f1, f3, hg, hlt, hlt', h0, hat, htk, hln, encE_length, encE_take5, decide_true, vc_region, vc_quiet, vcD_nil, vcD_val, vcD_eff, vcD_guard, vcDOut, vcDEff, vcDGuard, saysAll, pendAll, pendNext, addPend, Says, vc_bad, vc_seq, vc_ret, vc_skip, vc_cond, vcCond, vc_block, vc_exit, vcGrps_nil, vcGrps_cons, vcGrps_guard, vcGuard, vcOps_nil, vcOps_cons, vcOut, KCall_ret, KCall_pan, skipF_nil, skipF_cons, Qseq_normal, Qseq_ret, Qseq_exit, Qseq_pan, Qblk_normal, Qblk_exit, Qblk_ret, Qblk_pan, Qpan_eq, Qcut_normal, Qcut_exit, Qcut_ret, Qcut_pan, Qloop_normal, Qloop_exit, Qloop_ret, Qloop_pan,
    stepOp, ev, upd_apply, putF, cellsOf, deref, faddrV, mk, abin, abinI, abinS, ibits, aeqb, aun, fldV, idxOf, elems, isPtr, putRef, splice, fillA, rowsA, minV, peqV, elemsA, rowBytes, strOf, Store.get_push, Store.get_set, Store.n_push, Store.n_set,
    Option.map_some, Option.map_none, reduceIte, Nat.reduceEqDiff, Nat.reduceAdd, Nat.reduceLeDiff, Nat.reduceLT, Nat.zero_add, Nat.add_zero, Nat.add_assoc, Nat.add_left_cancel_iff, Nat.left_eq_add, Nat.add_eq_left, Nat.lt_irrefl, Nat.le_refl,
    List.drop_zero, List.drop_succ_cons, List.take_succ_cons, List.take_zero, List.headD_cons, List.length_cons, List.length_nil, List.getElem?_cons_zero, List.getElem?_cons_succ, List.set_cons_zero, List.set_cons_succ, List.map_cons, List.map_nil,
    Bool.not_true, Bool.not_false, Bool.false_eq_true, Bool.true_eq_false, Bool.not_eq_true', Bool.not_eq_false', eq_self, false_imp_iff, true_imp_iff, and_true, true_and, and_false, false_and, or_true, true_or, initFr, fr0_at, Qend, resL, resV1, pack,
    decide_eq_true_eq, decide_eq_false_iff_not, Int.toNat_natCast, Option.some.injEq, exists_eq_left', vcCond_T, vcCond_F]
    intro hlen
    unfold lenMax at hlen
    have hi1 : IntKind.i64.wrap ((i : Int) + 1) = i + 1 := w64 _ (by omega) (by omega)
    refine (ih k hkm).use ?_
    simp -implicitDefEqProofs only [f1, f3, hi1, vc_region, vc_quiet, vcD_nil, vcD_val, vcD_eff, vcD_guard, vcDOut, vcDEff, vcDGuard, saysAll, pendAll, pendNext, addPend, Says, vc_bad, vc_seq, vc_ret, vc_skip, vc_cond, vcCond, vc_block, vc_exit, vcGrps_nil, vcGrps_cons, vcGrps_guard, vcGuard, vcOps_nil, vcOps_cons, vcOut, KCall_ret, KCall_pan, skipF_nil, skipF_cons, Qseq_normal, Qseq_ret, Qseq_exit, Qseq_pan, Qblk_normal, Qblk_exit, Qblk_ret, Qblk_pan, Qpan_eq, Qcut_normal, Qcut_exit, Qcut_ret, Qcut_pan, Qloop_normal, Qloop_exit, Qloop_ret, Qloop_pan,
    stepOp, ev, upd_apply, putF, cellsOf, deref, faddrV, mk, abin, abinI, abinS, ibits, aeqb, aun, fldV, idxOf, elems, isPtr, putRef, splice, fillA, rowsA, minV, peqV, elemsA, rowBytes, strOf, Store.get_push, Store.get_set, Store.n_push, Store.n_set,
    Option.map_some, Option.map_none, reduceIte, Nat.reduceEqDiff, Nat.reduceAdd, Nat.reduceLeDiff, Nat.reduceLT, Nat.zero_add, Nat.add_zero, Nat.add_assoc, Nat.add_left_cancel_iff, Nat.left_eq_add, Nat.add_eq_left, Nat.lt_irrefl, Nat.le_refl,
    List.drop_zero, List.drop_succ_cons, List.take_succ_cons, List.take_zero, List.headD_cons, List.length_cons, List.length_nil, List.getElem?_cons_zero, List.getElem?_cons_succ, List.set_cons_zero, List.set_cons_succ, List.map_cons, List.map_nil,
    Bool.not_true, Bool.not_false, Bool.false_eq_true, Bool.true_eq_false, Bool.not_eq_true', Bool.not_eq_false', eq_self, false_imp_iff, true_imp_iff, and_true, true_and, and_false, false_and, or_true, true_or, initFr, fr0_at, Qend, resL, resV1, pack,
    decide_eq_true_eq, decide_eq_false_iff_not, Int.toNat_natCast, Option.some.injEq, exists_eq_left', vcCond_T, vcCond_F]
    exact ⟨n - 1, by omega, i + 1, by omega, hg0, hE, by simp⟩
  · have hlt' : ¬ (i : Int) < e.kids.length := by omega
    have hi : i = e.kids.length := by omega
    have hm : (encEs (lentSs e.kids) ++ [marker])[e.kids.length]? = some marker := by
      rw [List.getElem?_append_right (by omega), hln, Nat.sub_self]; rfl
    have hlm : (encEs (lentSs e.kids) ++ [marker]).length = e.kids.length + 1 := by rw [List.length_append, hln]; rfl
    simp -implicitDefEqProofs only [f1, f3, hg, hlt', htk, hln, decide_false, vc_region, vc_quiet, vcD_nil, vcD_val, vcD_eff, vcD_guard, vcDOut, vcDEff, vcDGuard, saysAll, pendAll, pendNext, addPend, Says, vc_bad, vc_seq, vc_ret, vc_skip, vc_block, vc_exit, vcGrps_nil, vcGrps_cons, vcGrps_guard, vcGuard, vcOps_nil, vcOps_cons, vcOut, KCall_ret, KCall_pan, skipF_nil, skipF_cons, Qseq_normal, Qseq_ret, Qseq_exit, Qseq_pan, Qblk_normal, Qblk_exit, Qblk_ret, Qblk_pan, Qpan_eq, Qcut_normal, Qcut_exit, Qcut_ret, Qcut_pan, Qloop_normal, Qloop_exit, Qloop_ret, Qloop_pan,
    stepOp, ev, upd_apply, putF, cellsOf, deref, faddrV, mk, abin, abinI, abinS, ibits, aeqb, aun, fldV, idxOf, elems, isPtr, putRef, splice, fillA, rowsA, minV, peqV, elemsA, rowBytes, strOf, Store.get_push, Store.get_set, Store.n_push, Store.n_set,
    Option.map_some, Option.map_none, reduceIte, Nat.reduceEqDiff, Nat.reduceAdd, Nat.reduceLeDiff, Nat.reduceLT, Nat.zero_add, Nat.add_zero, Nat.add_assoc, Nat.add_left_cancel_iff, Nat.left_eq_add, Nat.add_eq_left, Nat.lt_irrefl, Nat.le_refl,
    List.drop_zero, List.drop_succ_cons, List.take_succ_cons, List.take_zero, List.headD_cons, List.length_cons, List.length_nil, List.getElem?_cons_zero, List.getElem?_cons_succ, List.set_cons_zero, List.set_cons_succ, List.map_cons, List.map_nil,
    Bool.not_true, Bool.not_false, Bool.false_eq_true, Bool.true_eq_false, Bool.not_eq_true', Bool.not_eq_false', eq_self, false_imp_iff, true_imp_iff, and_true, true_and, and_false, false_and, or_true, true_or, initFr, fr0_at, Qend, resL, resV1, pack,
    decide_eq_true_eq, decide_eq_false_iff_not, Int.toNat_natCast, Option.some.injEq, exists_eq_left']
    intro hlen
    unfold lenMax at hlen
    refine vc_cond_neg (c := .tmp 8) (p := (i : Int) < e.kids.length) (by simp only [ev, upd_apply, Nat.reduceEqDiff, reduceIte, hlt', decide_false]) hlt' ?_
    have hw1 : IntKind.i64.wrap ((e.kids.length : Int) + 1) = ((e.kids.length + 1 : Nat) : Int) := by rw [w64 _ (by omega) (by omega)]; push_cast; rfl
    have h0 : (0 : Int) ≤ ((e.kids.length + 1 : Nat) : Int) := by omega
    have h0' : (0 : Int) ≤ (e.kids.length : Int) := by omega
    have hlt2 : e.kids.length < e.kids.length + 1 := by omega
    have hm1 : marker.length = 5 := rfl
    have hm2 : marker.drop 1 = [.int .i64 (-77), .bool false, .str [], .lit (.slice none 0 0)] := rfl
    simp -implicitDefEqProofs only [f1, f3, hg, hlt', htk, hln, hw1, h0, h0', hlt2, hm, hlm, hm1, hm2, Nat.zero_le, Nat.sub_zero, decide_true, decide_false, vc_region, vc_quiet, vcD_nil, vcD_val, vcD_eff, vcD_guard, vcDOut, vcDEff, vcDGuard, saysAll, pendAll, pendNext, addPend, Says, vc_bad, vc_seq, vc_ret, vc_skip, vc_cond, vcCond, vc_block, vc_exit, vcGrps_nil, vcGrps_cons, vcGrps_guard, vcGuard, vcOps_nil, vcOps_cons, vcOut, KCall_ret, KCall_pan, skipF_nil, skipF_cons, Qseq_normal, Qseq_ret, Qseq_exit, Qseq_pan, Qblk_normal, Qblk_exit, Qblk_ret, Qblk_pan, Qpan_eq, Qcut_normal, Qcut_exit, Qcut_ret, Qcut_pan, Qloop_normal, Qloop_exit, Qloop_ret, Qloop_pan,
    stepOp, ev, upd_apply, putF, cellsOf, deref, faddrV, mk, abin, abinI, abinS, ibits, aeqb, aun, fldV, idxOf, elems, isPtr, putRef, splice, fillA, rowsA, minV, peqV, elemsA, rowBytes, strOf, Store.get_push, Store.get_set, Store.n_push, Store.n_set,
    Option.map_some, Option.map_none, reduceIte, Nat.reduceEqDiff, Nat.reduceAdd, Nat.reduceLeDiff, Nat.reduceLT, Nat.zero_add, Nat.add_zero, Nat.add_assoc, Nat.add_left_cancel_iff, Nat.left_eq_add, Nat.add_eq_left, Nat.lt_irrefl, Nat.le_refl,
    List.drop_zero, List.drop_succ_cons, List.take_succ_cons, List.take_zero, List.headD_cons, List.length_cons, List.length_nil, List.getElem?_cons_zero, List.getElem?_cons_succ, List.set_cons_zero, List.set_cons_succ, List.map_cons, List.map_nil,
    Bool.not_true, Bool.not_false, Bool.false_eq_true, Bool.true_eq_false, Bool.not_eq_true', Bool.not_eq_false', eq_self, false_imp_iff, true_imp_iff, and_true, true_and, and_false, false_and, or_true, true_or, initFr, fr0_at, Qend, resL, resV1, pack,
    decide_eq_true_eq, decide_eq_false_iff_not, Int.toNat_natCast, Option.some.injEq, exists_eq_left', vcCond_T, vcCond_F]
    exact hE
end Go.Proofs.Ytmlllckecalaaaa.Eng

namespace Go.Proofs.Ytmlllckecalaaaa.Eng
open Go Go.Proofs.Try

/-- A row that was made within is given out in the result. -/
theorem ACalls.backSl {P : Program} {f : FuncId} {args : List AV} {S : Store} {K0 K : AEnd → Store → Prop} (h : ACalls P f args S K0)
    (hk : ∀ r S', K0 r S' → ∃ (k t s frz : Nat) (es : List (List AV)), Ext S S' ∧ S.n ≤ k ∧ S'.get k = some (.row t s frz es) ∧ fzOk k es.length r.val ∧ nm S.n (fz k s es r.val) ∧ K (r.with (fz k s es r.val)) S) : ACalls P f args S K :=
  ACalls.wf fun hwf hn => h.turn fun r S' hr => by
    obtain ⟨k, t, s, frz, es, h1, h2, h3, h4, h5, h6⟩ := hk r S' hr
    refine ⟨fz k s es r.val, S, ?_, h6⟩
    have t1 : Turn S.n [r.val] S' (fzL k s es [r.val]) (S'.set k none) := Turn.freeze h3 (by simp only [fzOkL]; exact ⟨h4, trivial⟩)
    simp only [fzL] at t1
    have h1' := h1.set k none h2
    refine t1.trans (Turn.reset h1'.n (Nat.le_refl _) (fun l o e => ?_) (by simp only [nmL]; exact ⟨h5, trivial⟩))
    obtain ⟨a1, a2⟩ := hwf l o e
    exact ⟨by rw [h1'.get l a1]; exact e, a1, a2⟩

theorem encEs_app (a b : List Elem) : encEs (a ++ b) = encEs a ++ encEs b := by
  induction a with
  | nil => simp [encEs]
  | cons x a ih => simp only [List.cons_append, encEs, ih]
theorem lentSs_app : ∀ (a : List Elem) (k : Elem), lentSs (a ++ [k]) = lentSs a ++ [lentS k]
  | [], k => by simp [lentSs]
  | x :: a, k => by simp only [List.cons_append, lentSs, lentSs_app a k]
theorem set_mid {α : Type} (a b : List α) (x y : α) : (a ++ x :: b).set a.length y = a ++ y :: b := by simp [List.set_append]
theorem get_mid {α : Type} (a b : List α) (x : α) : (a ++ x :: b)[a.length]? = some x := by simp

theorem nmLL_append' (n : Nat) (a b : List (List AV)) (h1 : nmLL n a) (h2 : nmLL n b) : nmLL n (a ++ b) := (nmLL_append n a b).2 ⟨h1, h2⟩
mutual
theorem nm_lent : ∀ (e : Elem) (n : Nat), nmL n (encE (lentS e))
  | .mk c t k b ks ext, n => by
    simp only [lentS, encE, nmL, nm, and_true, true_and]
    exact nmLL_append' n _ _ (nm_lents ks n) (by simp only [nmLL, marker, nmL, nm, and_self])
theorem nm_lents : ∀ (ks : List Elem) (n : Nat), nmLL n (encEs (lentSs ks))
  | [], n => by simp only [lentSs, encEs, nmLL]
  | k :: ks, n => by simp only [lentSs, encEs, nmLL]; exact ⟨nm_lent k n, nm_lents ks n⟩
end

theorem c14 : ∀ (e : Elem), okE e → Pure prog 14 [.agg (encE e)] (.agg (encE (lentS e))) := by
  intro e
  induction e using Elem.ind with
  | h e ih =>
  intro hok S
  obtain ⟨_, _, hbl, hkl, hks⟩ := okE_eta hok
  unfold maxB at hkl
  refine ACalls.backSl (K0 := fun r S' => ∃ k, S.n ≤ k ∧ r = .ret (.agg [.int .i64 e.cls, .int .i64 e.tag, .bool e.cons, .str e.bytes, .own k 0 e.kids.length]) ∧ S'.get k = some (.row 24 5 0 (encEs (lentSs e.kids) ++ [marker])) ∧ Ext S S') ?_ ?_
  rotate_left
  · rintro r S' ⟨k, hk, rfl, hrow, hE⟩
    have hv : fz k 5 (encEs (lentSs e.kids) ++ [marker]) (.agg [.int .i64 e.cls, .int .i64 e.tag, .bool e.cons, .str e.bytes, .own k 0 e.kids.length]) = .agg (encE (lentS e)) := by
      rw [lentS_eta, encE, lentSs_length]
      simp [fz, fzL]
    refine ⟨k, 24, 5, 0, _, hE, hk, hrow, ?_, ?_, ?_⟩
    · simp only [AEnd.val, fzOk, fzOkL, and_true, true_and, List.length_append, encEs_length, lentSs_length]
      intro _; omega
    · show nm S.n (fz k 5 (encEs (lentSs e.kids) ++ [marker]) (.agg [.int .i64 e.cls, .int .i64 e.tag, .bool e.cons, .str e.bytes, .own k 0 e.kids.length]))
      rw [hv]; simp only [nm]; exact nm_lent e _
    · show (AEnd.ret _ = _) ∧ S = S
      exact ⟨by rw [← hv]; rfl, rfl⟩
  refine acalls_of_vc low14 (by simp) ?_
  obtain ⟨bx, hbx⟩ : ∃ bx, bx = AObj.box 24 [AV.int .i64 e.cls, .int .i64 e.tag, .bool e.cons, .str e.bytes, .sl 5 (encEs e.kids ++ e.ext) e.kids.length] := ⟨_, rfl⟩
  unfold B14
  refine vc_cut (fun fr T => fr 1 = .ptr S.n 0 ∧ fr 2 = .ptr (S.n + 1) 0 ∧ T.get S.n = some bx ∧ (∃ cs, T.get (S.n + 1) = some (.box 24 cs) ∧ cs.length = 5) ∧ Ext S T ∧ T.n = S.n + 2) ?_ ?_
  · rw [encE_eta]
    simp -implicitDefEqProofs only [vc_region, vc_quiet, vcD_nil, vcD_val, vcD_eff, vcD_guard, vcDOut, vcDEff, vcDGuard, saysAll, pendAll, pendNext, addPend, Says, vc_bad, vc_seq, vc_ret, vc_skip, vc_cond, vcCond, vc_block, vc_exit, vcGrps_nil, vcGrps_cons, vcGrps_guard, vcGuard, vcOps_nil, vcOps_cons, vcOut, KCall_ret, KCall_pan, skipF_nil, skipF_cons, Qseq_normal, Qseq_ret, Qseq_exit, Qseq_pan, Qblk_normal, Qblk_exit, Qblk_ret, Qblk_pan, Qpan_eq, Qcut_normal, Qcut_exit, Qcut_ret, Qcut_pan, Qloop_normal, Qloop_exit, Qloop_ret, Qloop_pan,
    stepOp, ev, upd_apply, putF, cellsOf, deref, faddrV, mk, abin, abinI, abinS, ibits, aeqb, aun, fldV, idxOf, elems, isPtr, putRef, splice, fillA, rowsA, minV, peqV, elemsA, rowBytes, strOf, Store.get_push, Store.get_set, Store.n_push, Store.n_set,
    Option.map_some, Option.map_none, reduceIte, Nat.reduceEqDiff, Nat.reduceAdd, Nat.reduceLeDiff, Nat.reduceLT, Nat.zero_add, Nat.add_zero, Nat.add_assoc, Nat.add_left_cancel_iff, Nat.left_eq_add, Nat.add_eq_left, Nat.lt_irrefl, Nat.le_refl,
    List.drop_zero, List.drop_succ_cons, List.take_succ_cons, List.take_zero, List.headD_cons, List.length_cons, List.length_nil, List.getElem?_cons_zero, List.getElem?_cons_succ, List.set_cons_zero, List.set_cons_succ, List.map_cons, List.map_nil,
    Bool.not_true, Bool.not_false, Bool.false_eq_true, Bool.true_eq_false, Bool.not_eq_true', Bool.not_eq_false', eq_self, false_imp_iff, true_imp_iff, and_true, true_and, and_false, false_and, or_true, true_or, initFr, fr0_at, Qend, resL, resV1, pack,
    decide_eq_true_eq, decide_eq_false_iff_not, Int.toNat_natCast, Option.some.injEq, exists_eq_left', vcCond_T, vcCond_F]
    rw [hbx]
    exact ⟨by simp, ⟨_, rfl, rfl⟩, ((Ext.refl S).push _).push _⟩
  rintro fr T ⟨f1, f2, hg, ⟨cs, hg2, hcs⟩, hE, hn⟩
  have hgb := hg
  rw [hbx] at hg
  -- the list is copied
  refine vc_cut (fun fr U => fr 1 = .ptr S.n 0 ∧ fr 2 = .ptr (S.n + 1) 0 ∧ U.get S.n = some bx ∧ (∃ cs, U.get (S.n + 1) = some (.box 24 cs) ∧ cs.length = 5) ∧ Ext S U ∧ S.n + 2 ≤ U.n ∧
    ((fr 3 = .lit (.slice none 0 0) ∧ e.kids = []) ∨ (fr 3 = .own (S.n + 2) 0 e.kids.length ∧ U.get (S.n + 2) = some (.row 24 5 0 (encEs e.kids)) ∧ S.n + 3 ≤ U.n))) ?_ ?_
  · cases hks0 : e.kids with
    | nil =>
      rw [hks0] at hg
      simp -implicitDefEqProofs only [f1, f2, hg, encEs, List.nil_append, List.length_nil, vc_region, vc_quiet, vcD_nil, vcD_val, vcD_eff, vcD_guard, vcDOut, vcDEff, vcDGuard, saysAll, pendAll, pendNext, addPend, Says, vc_bad, vc_seq, vc_ret, vc_skip, vc_cond, vcCond, vc_block, vc_exit, vcGrps_nil, vcGrps_cons, vcGrps_guard, vcGuard, vcOps_nil, vcOps_cons, vcOut, KCall_ret, KCall_pan, skipF_nil, skipF_cons, Qseq_normal, Qseq_ret, Qseq_exit, Qseq_pan, Qblk_normal, Qblk_exit, Qblk_ret, Qblk_pan, Qpan_eq, Qcut_normal, Qcut_exit, Qcut_ret, Qcut_pan, Qloop_normal, Qloop_exit, Qloop_ret, Qloop_pan,
    stepOp, ev, upd_apply, putF, cellsOf, deref, faddrV, mk, abin, abinI, abinS, ibits, aeqb, aun, fldV, idxOf, elems, isPtr, putRef, splice, fillA, rowsA, minV, peqV, elemsA, rowBytes, strOf, Store.get_push, Store.get_set, Store.n_push, Store.n_set,
    Option.map_some, Option.map_none, reduceIte, Nat.reduceEqDiff, Nat.reduceAdd, Nat.reduceLeDiff, Nat.reduceLT, Nat.zero_add, Nat.add_zero, Nat.add_assoc, Nat.add_left_cancel_iff, Nat.left_eq_add, Nat.add_eq_left, Nat.lt_irrefl, Nat.le_refl,
    List.drop_zero, List.drop_succ_cons, List.take_succ_cons, List.take_zero, List.headD_cons, List.length_cons, List.length_nil, List.getElem?_cons_zero, List.getElem?_cons_succ, List.set_cons_zero, List.set_cons_succ, List.map_cons, List.map_nil,
    Bool.not_true, Bool.not_false, Bool.false_eq_true, Bool.true_eq_false, Bool.not_eq_true', Bool.not_eq_false', eq_self, false_imp_iff, true_imp_iff, and_true, true_and, and_false, false_and, or_true, true_or, initFr, fr0_at, Qend, resL, resV1, pack,
    decide_eq_true_eq, decide_eq_false_iff_not, Int.toNat_natCast, Option.some.injEq, exists_eq_left', vcCond_T, vcCond_F]
      refine ⟨by rw [hbx, hks0]; rfl, ⟨cs, hg2, hcs⟩, hE, by omega⟩
    | cons k ks =>
      rw [hks0] at hg
      have hec : encEs (k :: ks) = encE k :: encEs ks := by simp only [encEs]
      have ht := encEs_take (k :: ks) e.ext
      rw [hec] at hg ht
      have hl1 : (k :: ks).length = ks.length + 1 := rfl
      rw [hl1] at hg ht
      have hkl2 : (ks.length + 1) * 64 ≤ 140737488351232 := by rw [hks0] at hkl; simpa using hkl
      have h2n : ¬ S.n = T.n := by omega
      have h3n : ¬ S.n + 1 = T.n := by omega
      have h4n : S.n + 2 = T.n := by omega
      simp -implicitDefEqProofs only [f1, f2, hg, ht, encEs_length, h2n, h3n, h4n, vc_region, vc_quiet, vcD_nil, vcD_val, vcD_eff, vcD_guard, vcDOut, vcDEff, vcDGuard, saysAll, pendAll, pendNext, addPend, Says, vc_bad, vc_seq, vc_ret, vc_skip, vc_cond, vcCond, vc_block, vc_exit, vcGrps_nil, vcGrps_cons, vcGrps_guard, vcGuard, vcOps_nil, vcOps_cons, vcOut, KCall_ret, KCall_pan, skipF_nil, skipF_cons, Qseq_normal, Qseq_ret, Qseq_exit, Qseq_pan, Qblk_normal, Qblk_exit, Qblk_ret, Qblk_pan, Qpan_eq, Qcut_normal, Qcut_exit, Qcut_ret, Qcut_pan, Qloop_normal, Qloop_exit, Qloop_ret, Qloop_pan,
    stepOp, ev, upd_apply, putF, cellsOf, deref, faddrV, mk, abin, abinI, abinS, ibits, aeqb, aun, fldV, idxOf, elems, isPtr, putRef, splice, fillA, rowsA, minV, peqV, elemsA, rowBytes, strOf, Store.get_push, Store.get_set, Store.n_push, Store.n_set,
    Option.map_some, Option.map_none, reduceIte, Nat.reduceEqDiff, Nat.reduceAdd, Nat.reduceLeDiff, Nat.reduceLT, Nat.zero_add, Nat.add_zero, Nat.add_assoc, Nat.add_left_cancel_iff, Nat.left_eq_add, Nat.add_eq_left, Nat.lt_irrefl, Nat.le_refl,
    List.drop_zero, List.drop_succ_cons, List.take_succ_cons, List.take_zero, List.headD_cons, List.length_cons, List.length_nil, List.getElem?_cons_zero, List.getElem?_cons_succ, List.set_cons_zero, List.set_cons_succ, List.map_cons, List.map_nil,
    Bool.not_true, Bool.not_false, Bool.false_eq_true, Bool.true_eq_false, Bool.not_eq_true', Bool.not_eq_false', eq_self, false_imp_iff, true_imp_iff, and_true, true_and, and_false, false_and, or_true, true_or, initFr, fr0_at, Qend, resL, resV1, pack,
    decide_eq_true_eq, decide_eq_false_iff_not, Int.toNat_natCast, Option.some.injEq, exists_eq_left', vcCond_T, vcCond_F]
      exact ⟨by omega, by rw [hbx, hks0, hec]; rfl, ⟨cs, hg2, hcs⟩, hE.push _, by omega, .inr (by rw [hec])⟩
  clear f1 f2 hg hgb hg2 hcs hE hn fr T cs
  rintro fr T ⟨f1, f2, hg, ⟨cs, hg2, hcs⟩, hE, hn, f3⟩
  have hgb := hg
  rw [hbx] at hg
  -- each of it is lent
  refine vc_cut (fun fr U => fr 1 = .ptr S.n 0 ∧ fr 2 = .ptr (S.n + 1) 0 ∧ U.get S.n = some bx ∧ (∃ cs, U.get (S.n + 1) = some (.box 24 cs) ∧ cs.length = 5) ∧ Ext S U ∧ S.n + 2 ≤ U.n ∧
    ((fr 3 = .lit (.slice none 0 0) ∧ e.kids = []) ∨ (fr 3 = .own (S.n + 2) 0 e.kids.length ∧ U.get (S.n + 2) = some (.row 24 5 0 (encEs (lentSs e.kids))) ∧ S.n + 3 ≤ U.n))) ?_ ?_
  · rcases f3 with ⟨f3, hk0⟩ | ⟨f3, hrow, hn3⟩
    · simp -implicitDefEqProofs only [f1, f2, f3, vc_region, vc_quiet, vcD_nil, vcD_val, vcD_eff, vcD_guard, vcDOut, vcDEff, vcDGuard, saysAll, pendAll, pendNext, addPend, Says, vc_bad, vc_seq, vc_ret, vc_skip, vc_cond, vcCond, vc_block, vc_exit, vcGrps_nil, vcGrps_cons, vcGrps_guard, vcGuard, vcOps_nil, vcOps_cons, vcOut, KCall_ret, KCall_pan, skipF_nil, skipF_cons, Qseq_normal, Qseq_ret, Qseq_exit, Qseq_pan, Qblk_normal, Qblk_exit, Qblk_ret, Qblk_pan, Qpan_eq, Qcut_normal, Qcut_exit, Qcut_ret, Qcut_pan, Qloop_normal, Qloop_exit, Qloop_ret, Qloop_pan,
    stepOp, ev, upd_apply, putF, cellsOf, deref, faddrV, mk, abin, abinI, abinS, ibits, aeqb, aun, fldV, idxOf, elems, isPtr, putRef, splice, fillA, rowsA, minV, peqV, elemsA, rowBytes, strOf, Store.get_push, Store.get_set, Store.n_push, Store.n_set,
    Option.map_some, Option.map_none, reduceIte, Nat.reduceEqDiff, Nat.reduceAdd, Nat.reduceLeDiff, Nat.reduceLT, Nat.zero_add, Nat.add_zero, Nat.add_assoc, Nat.add_left_cancel_iff, Nat.left_eq_add, Nat.add_eq_left, Nat.lt_irrefl, Nat.le_refl,
    List.drop_zero, List.drop_succ_cons, List.take_succ_cons, List.take_zero, List.headD_cons, List.length_cons, List.length_nil, List.getElem?_cons_zero, List.getElem?_cons_succ, List.set_cons_zero, List.set_cons_succ, List.map_cons, List.map_nil,
    Bool.not_true, Bool.not_false, Bool.false_eq_true, Bool.true_eq_false, Bool.not_eq_true', Bool.not_eq_false', eq_self, false_imp_iff, true_imp_iff, and_true, true_and, and_false, false_and, or_true, true_or, initFr, fr0_at, Qend, resL, resV1, pack,
    decide_eq_true_eq, decide_eq_false_iff_not, Int.toNat_natCast, Option.some.injEq, exists_eq_left', vcCond_T, vcCond_F]
      refine vc_loop (fun n fr U => fr 1 = .ptr S.n 0 ∧ fr 2 = .ptr (S.n + 1) 0 ∧ fr 3 = .lit (.slice none 0 0) ∧ fr 4 = .int .i64 0 ∧ U = T) 0 ⟨by simp [upd_apply, f1], by simp [upd_apply, f2], by simp [upd_apply, f3], rfl, rfl⟩ ?_
      clear f1 f2 f3 fr
      rintro n fr U ⟨f1, f2, f3, f4, rfl⟩
      have h00 : ¬ (0 : Int) < ((0 : Nat) : Int) := by omega
      simp -implicitDefEqProofs only [f1, f2, f3, f4, h00, decide_false, vc_region, vc_quiet, vcD_nil, vcD_val, vcD_eff, vcD_guard, vcDOut, vcDEff, vcDGuard, saysAll, pendAll, pendNext, addPend, Says, vc_bad, vc_seq, vc_ret, vc_skip, vc_cond, vcCond, vc_block, vc_exit, vcGrps_nil, vcGrps_cons, vcGrps_guard, vcGuard, vcOps_nil, vcOps_cons, vcOut, KCall_ret, KCall_pan, skipF_nil, skipF_cons, Qseq_normal, Qseq_ret, Qseq_exit, Qseq_pan, Qblk_normal, Qblk_exit, Qblk_ret, Qblk_pan, Qpan_eq, Qcut_normal, Qcut_exit, Qcut_ret, Qcut_pan, Qloop_normal, Qloop_exit, Qloop_ret, Qloop_pan,
    stepOp, ev, upd_apply, putF, cellsOf, deref, faddrV, mk, abin, abinI, abinS, ibits, aeqb, aun, fldV, idxOf, elems, isPtr, putRef, splice, fillA, rowsA, minV, peqV, elemsA, rowBytes, strOf, Store.get_push, Store.get_set, Store.n_push, Store.n_set,
    Option.map_some, Option.map_none, reduceIte, Nat.reduceEqDiff, Nat.reduceAdd, Nat.reduceLeDiff, Nat.reduceLT, Nat.zero_add, Nat.add_zero, Nat.add_assoc, Nat.add_left_cancel_iff, Nat.left_eq_add, Nat.add_eq_left, Nat.lt_irrefl, Nat.le_refl,
    List.drop_zero, List.drop_succ_cons, List.take_succ_cons, List.take_zero, List.headD_cons, List.length_cons, List.length_nil, List.getElem?_cons_zero, List.getElem?_cons_succ, List.set_cons_zero, List.set_cons_succ, List.map_cons, List.map_nil,
    Bool.not_true, Bool.not_false, Bool.false_eq_true, Bool.true_eq_false, Bool.not_eq_true', Bool.not_eq_false', eq_self, false_imp_iff, true_imp_iff, and_true, true_and, and_false, false_and, or_true, true_or, initFr, fr0_at, Qend, resL, resV1, pack,
    decide_eq_true_eq, decide_eq_false_iff_not, Int.toNat_natCast, Option.some.injEq, exists_eq_left', vcCond_T, vcCond_F]
      exact fun _ => ⟨hgb, ⟨cs, hg2, hcs⟩, hE, hn, .inl hk0⟩
    · simp -implicitDefEqProofs only [f1, f2, f3, vc_region, vc_quiet, vcD_nil, vcD_val, vcD_eff, vcD_guard, vcDOut, vcDEff, vcDGuard, saysAll, pendAll, pendNext, addPend, Says, vc_bad, vc_seq, vc_ret, vc_skip, vc_cond, vcCond, vc_block, vc_exit, vcGrps_nil, vcGrps_cons, vcGrps_guard, vcGuard, vcOps_nil, vcOps_cons, vcOut, KCall_ret, KCall_pan, skipF_nil, skipF_cons, Qseq_normal, Qseq_ret, Qseq_exit, Qseq_pan, Qblk_normal, Qblk_exit, Qblk_ret, Qblk_pan, Qpan_eq, Qcut_normal, Qcut_exit, Qcut_ret, Qcut_pan, Qloop_normal, Qloop_exit, Qloop_ret, Qloop_pan,
    stepOp, ev, upd_apply, putF, cellsOf, deref, faddrV, mk, abin, abinI, abinS, ibits, aeqb, aun, fldV, idxOf, elems, isPtr, putRef, splice, fillA, rowsA, minV, peqV, elemsA, rowBytes, strOf, Store.get_push, Store.get_set, Store.n_push, Store.n_set,
    Option.map_some, Option.map_none, reduceIte, Nat.reduceEqDiff, Nat.reduceAdd, Nat.reduceLeDiff, Nat.reduceLT, Nat.zero_add, Nat.add_zero, Nat.add_assoc, Nat.add_left_cancel_iff, Nat.left_eq_add, Nat.add_eq_left, Nat.lt_irrefl, Nat.le_refl,
    List.drop_zero, List.drop_succ_cons, List.take_succ_cons, List.take_zero, List.headD_cons, List.length_cons, List.length_nil, List.getElem?_cons_zero, List.getElem?_cons_succ, List.set_cons_zero, List.set_cons_succ, List.map_cons, List.map_nil,
    Bool.not_true, Bool.not_false, Bool.false_eq_true, Bool.true_eq_false, Bool.not_eq_true', Bool.not_eq_false', eq_self, false_imp_iff, true_imp_iff, and_true, true_and, and_false, false_and, or_true, true_or, initFr, fr0_at, Qend, resL, resV1, pack,
    decide_eq_true_eq, decide_eq_false_iff_not, Int.toNat_natCast, Option.some.injEq, exists_eq_left', vcCond_T, vcCond_F]
      refine vc_loop (fun n fr U => ∃ i, i + n = e.kids.length ∧ fr 1 = .ptr S.n 0 ∧ fr 2 = .ptr (S.n + 1) 0 ∧ fr 3 = .own (S.n + 2) 0 e.kids.length ∧ fr 4 = .int .i64 i ∧ U.get S.n = some bx ∧ (∃ cs, U.get (S.n + 1) = some (.box 24 cs) ∧ cs.length = 5) ∧
        Ext S U ∧ S.n + 3 ≤ U.n ∧ U.get (S.n + 2) = some (.row 24 5 0 (encEs (lentSs (e.kids.take i)) ++ encEs (e.kids.drop i)))) e.kids.length
        ⟨0, by simp, by simp [upd_apply, f1], by simp [upd_apply, f2], by simp [upd_apply, f3], rfl, hgb, ⟨cs, hg2, hcs⟩, hE, hn3, by simpa [lentSs, encEs] using hrow⟩ ?_
      clear f1 f2 f3 fr hg hgb hg2 hcs hE hn hn3 hrow cs
      rintro n fr U ⟨i, hin, f1, f2, f3, f4, hg, ⟨cs, hg2, hcs⟩, hE, hn, hrow⟩
      have hl1 : (encEs (lentSs (e.kids.take i))).length = i := by rw [encEs_length, lentSs_length, List.length_take]; omega
      have hlen : (encEs (lentSs (e.kids.take i)) ++ encEs (e.kids.drop i)).length = e.kids.length := by rw [List.length_append, hl1, encEs_length, List.length_drop]; omega
      have htk : (encEs (lentSs (e.kids.take i)) ++ encEs (e.kids.drop i)).take e.kids.length = encEs (lentSs (e.kids.take i)) ++ encEs (e.kids.drop i) := by
        rw [← hlen]; exact List.take_length ..
      by_cases hlt : i < e.kids.length
      · obtain ⟨k, hk⟩ : ∃ k, e.kids[i]? = some k := ⟨_, List.getElem?_eq_getElem hlt⟩
        have hkm : k ∈ e.kids := List.mem_of_getElem? hk
        have h0 : (0 : Int) ≤ i := by omega
        have hlt' : (i : Int) < e.kids.length := by omega
        have hi1 : IntKind.i64.wrap ((i : Int) + 1) = i + 1 := w64 _ (by omega) (by omega)
        rw [drop_cons hk, encEs] at hrow hlen htk
        have hat : (encEs (lentSs (e.kids.take i)) ++ encE k :: encEs (e.kids.drop (i + 1)))[i]? = some (encE k) := by
          have := get_mid (encEs (lentSs (e.kids.take i))) (encEs (e.kids.drop (i + 1))) (encE k); rwa [hl1] at this
        have hset : (encEs (lentSs (e.kids.take i)) ++ encE k :: encEs (e.kids.drop (i + 1))).set i (encE (lentS k)) = encEs (lentSs (e.kids.take (i + 1))) ++ encEs (e.kids.drop (i + 1)) := by
          have := set_mid (encEs (lentSs (e.kids.take i))) (encEs (e.kids.drop (i + 1))) (encE k) (encE (lentS k))
          rw [hl1] at this
          rw [this, take_succ hk, lentSs_app, encEs_app]; simp [encEs]
        simp -implicitDefEqProofs only [f1, f2, f3, f4, hrow, hlen, htk, hat, hlt, hlt', h0, encE_length, encE_take5, decide_true, vc_region, vc_quiet, vcD_nil, vcD_val, vcD_eff, vcD_guard, vcDOut, vcDEff, vcDGuard, saysAll, pendAll, pendNext, addPend, Says, vc_bad, vc_seq, vc_ret, vc_skip, vc_cond, vcCond, vc_block, vc_exit, vcGrps_nil, vcGrps_cons, vcGrps_guard, vcGuard, vcOps_nil, vcOps_cons, vcOut, KCall_ret, KCall_pan, skipF_nil, skipF_cons, Qseq_normal, Qseq_ret, Qseq_exit, Qseq_pan, Qblk_normal, Qblk_exit, Qblk_ret, Qblk_pan, Qpan_eq, Qcut_normal, Qcut_exit, Qcut_ret, Qcut_pan, Qloop_normal, Qloop_exit, Qloop_ret, Qloop_pan,
    stepOp, ev, upd_apply, putF, cellsOf, deref, faddrV, mk, abin, abinI, abinS, ibits, aeqb, aun, fldV, idxOf, elems, isPtr, putRef, splice, fillA, rowsA, minV, peqV, elemsA, rowBytes, strOf, Store.get_push, Store.get_set, Store.n_push, Store.n_set,
    Option.map_some, Option.map_none, reduceIte, Nat.reduceEqDiff, Nat.reduceAdd, Nat.reduceLeDiff, Nat.reduceLT, Nat.zero_add, Nat.add_zero, Nat.add_assoc, Nat.add_left_cancel_iff, Nat.left_eq_add, Nat.add_eq_left, Nat.lt_irrefl, Nat.le_refl,
    List.drop_zero, List.drop_succ_cons, List.take_succ_cons, List.take_zero, List.headD_cons, List.length_cons, List.length_nil, List.getElem?_cons_zero, List.getElem?_cons_succ, List.set_cons_zero, List.set_cons_succ, List.map_cons, List.map_nil,
    Bool.not_true, Bool.not_false, Bool.false_eq_true, Bool.true_eq_false, Bool.not_eq_true', Bool.not_eq_false', eq_self, false_imp_iff, true_imp_iff, and_true, true_and, and_false, false_and, or_true, true_or, initFr, fr0_at, Qend, resL, resV1, pack,
    decide_eq_true_eq, decide_eq_false_iff_not, Int.toNat_natCast, Option.some.injEq, exists_eq_left', vcCond_T, vcCond_F]
        intro _
        refine (ih k hkm (hks k hkm)).use ?_
        have hspl : splice (encE k) 0 (encE (lentS k)) = encE (lentS k) := by rw [encE_eta k]; exact splice_encE ..
        simp -implicitDefEqProofs only [f1, f2, f3, f4, hi1, hrow, hlen, hat, hlt, h0, hset, hspl, encE_length, vc_region, vc_quiet, vcD_nil, vcD_val, vcD_eff, vcD_guard, vcDOut, vcDEff, vcDGuard, saysAll, pendAll, pendNext, addPend, Says, vc_bad, vc_seq, vc_ret, vc_skip, vc_cond, vcCond, vc_block, vc_exit, vcGrps_nil, vcGrps_cons, vcGrps_guard, vcGuard, vcOps_nil, vcOps_cons, vcOut, KCall_ret, KCall_pan, skipF_nil, skipF_cons, Qseq_normal, Qseq_ret, Qseq_exit, Qseq_pan, Qblk_normal, Qblk_exit, Qblk_ret, Qblk_pan, Qpan_eq, Qcut_normal, Qcut_exit, Qcut_ret, Qcut_pan, Qloop_normal, Qloop_exit, Qloop_ret, Qloop_pan,
    stepOp, ev, upd_apply, putF, cellsOf, deref, faddrV, mk, abin, abinI, abinS, ibits, aeqb, aun, fldV, idxOf, elems, isPtr, putRef, splice, fillA, rowsA, minV, peqV, elemsA, rowBytes, strOf, Store.get_push, Store.get_set, Store.n_push, Store.n_set,
    Option.map_some, Option.map_none, reduceIte, Nat.reduceEqDiff, Nat.reduceAdd, Nat.reduceLeDiff, Nat.reduceLT, Nat.zero_add, Nat.add_zero, Nat.add_assoc, Nat.add_left_cancel_iff, Nat.left_eq_add, Nat.add_eq_left, Nat.lt_irrefl, Nat.le_refl,
    List.drop_zero, List.drop_succ_cons, List.take_succ_cons, List.take_zero, List.headD_cons, List.length_cons, List.length_nil, List.getElem?_cons_zero, List.getElem?_cons_succ, List.set_cons_zero, List.set_cons_succ, List.map_cons, List.map_nil,
    Bool.not_true, Bool.not_false, Bool.false_eq_true, Bool.true_eq_false, Bool.not_eq_true', Bool.not_eq_false', eq_self, false_imp_iff, true_imp_iff, and_true, true_and, and_false, false_and, or_true, true_or, initFr, fr0_at, Qend, resL, resV1, pack,
    decide_eq_true_eq, decide_eq_false_iff_not, Int.toNat_natCast, Option.some.injEq, exists_eq_left', vcCond_T, vcCond_F]
        exact ⟨n - 1, by omega, i + 1, by omega, by simp, hg, ⟨cs, hg2, hcs⟩, hE.set _ _ (by omega), hn, rfl⟩
      · have hlt' : ¬ (i : Int) < e.kids.length := by omega
        have hi : i = e.kids.length := by omega
        simp -implicitDefEqProofs only [f1, f2, f3, f4, hrow, hlen, htk, hlt', decide_false, vc_region, vc_quiet, vcD_nil, vcD_val, vcD_eff, vcD_guard, vcDOut, vcDEff, vcDGuard, saysAll, pendAll, pendNext, addPend, Says, vc_bad, vc_seq, vc_ret, vc_skip, vc_cond, vcCond, vc_block, vc_exit, vcGrps_nil, vcGrps_cons, vcGrps_guard, vcGuard, vcOps_nil, vcOps_cons, vcOut, KCall_ret, KCall_pan, skipF_nil, skipF_cons, Qseq_normal, Qseq_ret, Qseq_exit, Qseq_pan, Qblk_normal, Qblk_exit, Qblk_ret, Qblk_pan, Qpan_eq, Qcut_normal, Qcut_exit, Qcut_ret, Qcut_pan, Qloop_normal, Qloop_exit, Qloop_ret, Qloop_pan,
    stepOp, ev, upd_apply, putF, cellsOf, deref, faddrV, mk, abin, abinI, abinS, ibits, aeqb, aun, fldV, idxOf, elems, isPtr, putRef, splice, fillA, rowsA, minV, peqV, elemsA, rowBytes, strOf, Store.get_push, Store.get_set, Store.n_push, Store.n_set,
    Option.map_some, Option.map_none, reduceIte, Nat.reduceEqDiff, Nat.reduceAdd, Nat.reduceLeDiff, Nat.reduceLT, Nat.zero_add, Nat.add_zero, Nat.add_assoc, Nat.add_left_cancel_iff, Nat.left_eq_add, Nat.add_eq_left, Nat.lt_irrefl, Nat.le_refl,
    List.drop_zero, List.drop_succ_cons, List.take_succ_cons, List.take_zero, List.headD_cons, List.length_cons, List.length_nil, List.getElem?_cons_zero, List.getElem?_cons_succ, List.set_cons_zero, List.set_cons_succ, List.map_cons, List.map_nil,
    Bool.not_true, Bool.not_false, Bool.false_eq_true, Bool.true_eq_false, Bool.not_eq_true', Bool.not_eq_false', eq_self, false_imp_iff, true_imp_iff, and_true, true_and, and_false, false_and, or_true, true_or, initFr, fr0_at, Qend, resL, resV1, pack,
    decide_eq_true_eq, decide_eq_false_iff_not, Int.toNat_natCast, Option.some.injEq, exists_eq_left', vcCond_T, vcCond_F]
        exact fun _ => ⟨hg, ⟨cs, hg2, hcs⟩, hE, by omega, .inr ⟨by rw [hi, List.take_length, List.drop_length]; simp [encEs], hn⟩⟩
  clear f1 f2 f3 hg hgb hg2 hcs hE hn fr T cs
  rintro fr T ⟨f1, f2, hg, ⟨cs, hg2, hcs⟩, hE, hn, f3⟩
  have hgb := hg
  rw [hbx] at hg
  -- the mark is set behind it
  refine vc_cut (fun fr U => fr 1 = .ptr S.n 0 ∧ fr 2 = .ptr (S.n + 1) 0 ∧ (∃ cs, U.get (S.n + 1) = some (.box 24 cs) ∧ cs.length = 5) ∧ Ext S U ∧ ∃ k, S.n ≤ k ∧ k ≠ S.n + 1 ∧
    U.get S.n = some (.box 24 [.int .i64 e.cls, .int .i64 e.tag, .bool e.cons, .str e.bytes, .own k 0 e.kids.length]) ∧ U.get k = some (.row 24 5 0 (encEs (lentSs e.kids) ++ [marker]))) ?_ ?_
  · have hTn : ¬ S.n = T.n := by omega
    have hTn1 : ¬ S.n + 1 = T.n := by omega
    rcases f3 with ⟨f3, hk0⟩ | ⟨f3, hrow, hn3⟩
    · rw [hk0] at hg
      have h00 : (0 : Int) ≤ ((0 : Nat) : Int) := by omega
      simp -implicitDefEqProofs only [f1, f2, f3, hg, hTn, hTn1, h00, encEs, List.length_nil, Nat.zero_le, Nat.sub_zero, vc_region, vc_quiet, vcD_nil, vcD_val, vcD_eff, vcD_guard, vcDOut, vcDEff, vcDGuard, saysAll, pendAll, pendNext, addPend, Says, vc_bad, vc_seq, vc_ret, vc_skip, vc_cond, vcCond, vc_block, vc_exit, vcGrps_nil, vcGrps_cons, vcGrps_guard, vcGuard, vcOps_nil, vcOps_cons, vcOut, KCall_ret, KCall_pan, skipF_nil, skipF_cons, Qseq_normal, Qseq_ret, Qseq_exit, Qseq_pan, Qblk_normal, Qblk_exit, Qblk_ret, Qblk_pan, Qpan_eq, Qcut_normal, Qcut_exit, Qcut_ret, Qcut_pan, Qloop_normal, Qloop_exit, Qloop_ret, Qloop_pan,
    stepOp, ev, upd_apply, putF, cellsOf, deref, faddrV, mk, abin, abinI, abinS, ibits, aeqb, aun, fldV, idxOf, elems, isPtr, putRef, splice, fillA, rowsA, minV, peqV, elemsA, rowBytes, strOf, Store.get_push, Store.get_set, Store.n_push, Store.n_set,
    Option.map_some, Option.map_none, reduceIte, Nat.reduceEqDiff, Nat.reduceAdd, Nat.reduceLeDiff, Nat.reduceLT, Nat.zero_add, Nat.add_zero, Nat.add_assoc, Nat.add_left_cancel_iff, Nat.left_eq_add, Nat.add_eq_left, Nat.lt_irrefl, Nat.le_refl,
    List.drop_zero, List.drop_succ_cons, List.take_succ_cons, List.take_zero, List.headD_cons, List.length_cons, List.length_nil, List.getElem?_cons_zero, List.getElem?_cons_succ, List.set_cons_zero, List.set_cons_succ, List.map_cons, List.map_nil,
    Bool.not_true, Bool.not_false, Bool.false_eq_true, Bool.true_eq_false, Bool.not_eq_true', Bool.not_eq_false', eq_self, false_imp_iff, true_imp_iff, and_true, true_and, and_false, false_and, or_true, true_or, initFr, fr0_at, Qend, resL, resV1, pack,
    decide_eq_true_eq, decide_eq_false_iff_not, Int.toNat_natCast, Option.some.injEq, exists_eq_left', vcCond_T, vcCond_F]
      refine ⟨by omega, ⟨cs, hg2, hcs⟩, (hE.push _).set _ _ (Nat.le_refl _), T.n, by omega, by omega, by rw [hk0]; rfl, ?_⟩
      rw [if_neg (by omega), if_pos rfl, hk0]; rfl
    · have h00 : (0 : Int) ≤ (e.kids.length : Int) := by omega
      have hlm : (encEs (lentSs e.kids)).length = e.kids.length := by rw [encEs_length, lentSs_length]
      have htk : (encEs (lentSs e.kids)).take e.kids.length = encEs (lentSs e.kids) := by rw [← hlm]; exact List.take_length ..
      have hn2 : ¬ S.n = S.n + 2 := by omega
      have hn12 : ¬ S.n + 1 = S.n + 2 := by omega
      have hle : e.kids.length ≤ e.kids.length + 1 := by omega
      have hTn2 : ¬ S.n + 2 = T.n := by omega
      simp -implicitDefEqProofs only [f1, f2, f3, hg, hrow, hlm, htk, hn2, hn12, hTn, hTn1, hTn2, h00, hle, List.length_append, Nat.zero_le, Nat.sub_zero, vc_region, vc_quiet, vcD_nil, vcD_val, vcD_eff, vcD_guard, vcDOut, vcDEff, vcDGuard, saysAll, pendAll, pendNext, addPend, Says, vc_bad, vc_seq, vc_ret, vc_skip, vc_cond, vcCond, vc_block, vc_exit, vcGrps_nil, vcGrps_cons, vcGrps_guard, vcGuard, vcOps_nil, vcOps_cons, vcOut, KCall_ret, KCall_pan, skipF_nil, skipF_cons, Qseq_normal, Qseq_ret, Qseq_exit, Qseq_pan, Qblk_normal, Qblk_exit, Qblk_ret, Qblk_pan, Qpan_eq, Qcut_normal, Qcut_exit, Qcut_ret, Qcut_pan, Qloop_normal, Qloop_exit, Qloop_ret, Qloop_pan,
    stepOp, ev, upd_apply, putF, cellsOf, deref, faddrV, mk, abin, abinI, abinS, ibits, aeqb, aun, fldV, idxOf, elems, isPtr, putRef, splice, fillA, rowsA, minV, peqV, elemsA, rowBytes, strOf, Store.get_push, Store.get_set, Store.n_push, Store.n_set,
    Option.map_some, Option.map_none, reduceIte, Nat.reduceEqDiff, Nat.reduceAdd, Nat.reduceLeDiff, Nat.reduceLT, Nat.zero_add, Nat.add_zero, Nat.add_assoc, Nat.add_left_cancel_iff, Nat.left_eq_add, Nat.add_eq_left, Nat.lt_irrefl, Nat.le_refl,
    List.drop_zero, List.drop_succ_cons, List.take_succ_cons, List.take_zero, List.headD_cons, List.length_cons, List.length_nil, List.getElem?_cons_zero, List.getElem?_cons_succ, List.set_cons_zero, List.set_cons_succ, List.map_cons, List.map_nil,
    Bool.not_true, Bool.not_false, Bool.false_eq_true, Bool.true_eq_false, Bool.not_eq_true', Bool.not_eq_false', eq_self, false_imp_iff, true_imp_iff, and_true, true_and, and_false, false_and, or_true, true_or, initFr, fr0_at, Qend, resL, resV1, pack,
    decide_eq_true_eq, decide_eq_false_iff_not, Int.toNat_natCast, Option.some.injEq, exists_eq_left', vcCond_T, vcCond_F]
      refine ⟨by omega, ⟨cs, hg2, hcs⟩, ((hE.set _ _ (by omega)).push _).set _ _ (Nat.le_refl _), T.n, by omega, by omega, rfl, by rw [if_neg (by omega), if_pos rfl]; rfl⟩
  clear f1 f2 f3 hg hgb hg2 hcs hE hn fr T cs
  rintro fr T ⟨f1, f2, ⟨cs, hg2, hcs⟩, hE, k, hk, hk1, hg, hrow⟩
  obtain ⟨a0, a1, a2, a3, a4, rfl⟩ : ∃ a b c d f, cs = [a, b, c, d, f] := by
    match cs, hcs with
    | [a, b, c, d, f], _ => exact ⟨a, b, c, d, f, rfl⟩
  have h1 : ¬ S.n = S.n + 1 := by omega
  simp -implicitDefEqProofs only [f1, f2, hg, hg2, h1, hk1, vc_region, vc_quiet, vcD_nil, vcD_val, vcD_eff, vcD_guard, vcDOut, vcDEff, vcDGuard, saysAll, pendAll, pendNext, addPend, Says, vc_bad, vc_seq, vc_ret, vc_skip, vc_cond, vcCond, vc_block, vc_exit, vcGrps_nil, vcGrps_cons, vcGrps_guard, vcGuard, vcOps_nil, vcOps_cons, vcOut, KCall_ret, KCall_pan, skipF_nil, skipF_cons, Qseq_normal, Qseq_ret, Qseq_exit, Qseq_pan, Qblk_normal, Qblk_exit, Qblk_ret, Qblk_pan, Qpan_eq, Qcut_normal, Qcut_exit, Qcut_ret, Qcut_pan, Qloop_normal, Qloop_exit, Qloop_ret, Qloop_pan,
    stepOp, ev, upd_apply, putF, cellsOf, deref, faddrV, mk, abin, abinI, abinS, ibits, aeqb, aun, fldV, idxOf, elems, isPtr, putRef, splice, fillA, rowsA, minV, peqV, elemsA, rowBytes, strOf, Store.get_push, Store.get_set, Store.n_push, Store.n_set,
    Option.map_some, Option.map_none, reduceIte, Nat.reduceEqDiff, Nat.reduceAdd, Nat.reduceLeDiff, Nat.reduceLT, Nat.zero_add, Nat.add_zero, Nat.add_assoc, Nat.add_left_cancel_iff, Nat.left_eq_add, Nat.add_eq_left, Nat.lt_irrefl, Nat.le_refl,
    List.drop_zero, List.drop_succ_cons, List.take_succ_cons, List.take_zero, List.headD_cons, List.length_cons, List.length_nil, List.getElem?_cons_zero, List.getElem?_cons_succ, List.set_cons_zero, List.set_cons_succ, List.map_cons, List.map_nil,
    Bool.not_true, Bool.not_false, Bool.false_eq_true, Bool.true_eq_false, Bool.not_eq_true', Bool.not_eq_false', eq_self, false_imp_iff, true_imp_iff, and_true, true_and, and_false, false_and, or_true, true_or, initFr, fr0_at, Qend, resL, resV1, pack,
    decide_eq_true_eq, decide_eq_false_iff_not, Int.toNat_natCast, Option.some.injEq, exists_eq_left', vcCond_T, vcCond_F]
  exact ⟨k, hk, rfl, by rw [if_neg hk1]; exact hrow, hE.set _ _ (by omega)⟩
end Go.Proofs.Ytmlllckecalaaaa.Eng

namespace Go.Proofs.Ytmlllckecalaaaa.Eng
open Go

/-! ## A value that stands for another too -/
def Wk (v v' : AV) : Prop := ∀ μ M w x, Rep μ M w v x → Rep μ M w v' x
def WkL (l l' : List AV) : Prop := ∀ μ M w xs, RepVals μ M w l xs → RepVals μ M w l' xs
theorem Wk.refl (v : AV) : Wk v v := fun _ _ _ _ h => h
theorem WkL.refl (l : List AV) : WkL l l := fun _ _ _ _ h => h
theorem Wk.nil (s : Nat) : Wk (.lit (.slice none 0 0)) (.sl s [] 0) := fun μ M w x h => by
  simp only [Rep] at h ⊢
  exact ⟨none, 0, h.1, by simp, by simp, by simp, by simp, .inl trivial⟩
theorem WkL.nil : WkL [] [] := fun _ _ _ _ h => h
theorem WkL.cons {v v' : AV} {l l' : List AV} (h : Wk v v') (k : WkL l l') : WkL (v :: l) (v' :: l') := fun μ M w xs hx => by
  simp only [RepVals] at hx ⊢
  obtain ⟨x, xs', e, h1, h2⟩ := hx
  exact ⟨x, xs', e, h μ M w x h1, k μ M w xs' h2⟩
theorem Wk.agg {l l' : List AV} (h : WkL l l') : Wk (.agg l) (.agg l') := fun μ M w x hx => by
  simp only [Rep] at hx ⊢
  obtain ⟨vs, e, h1, h2⟩ := hx
  exact ⟨vs, e, h μ M w _ h1, h2⟩
theorem Wk.tup {l l' : List AV} (h : WkL l l') : Wk (.tup l) (.tup l') := fun μ M w x hx => by
  simp only [Rep] at hx ⊢
  obtain ⟨vs, e, h1⟩ := hx
  exact ⟨vs, e, h μ M w _ h1⟩
theorem ACalls.args {P f args args' S K} (h : WkL args args') (k : ACalls P f args' S K) : ACalls P f args S K := fun μ w vs hr hv => k μ w vs hr (h μ _ w vs hv)
theorem Turn.weak {n0 : Nat} {vs vs' : List AV} {S : Store} (h : WkL vs vs') : Turn n0 vs S vs' S := fun μ w xs h1 h2 => ⟨μ, h1, fun _ _ _ h => h, fun _ h => h, h μ _ w xs h2⟩
theorem ACalls.weakR {P f args S} {K0 K : AEnd → Store → Prop} (h : ACalls P f args S K0) (hk : ∀ r S', K0 r S' → ∃ v, Wk r.val v ∧ K (r.with v) S') : ACalls P f args S K :=
  h.turn fun r S' hr => by
    obtain ⟨v, h1, h2⟩ := hk r S' hr
    exact ⟨v, S', Turn.weak (WkL.cons h1 WkL.nil), h2⟩
theorem Pure.weak {P f args v v'} (h : Pure P f args v) (hw : Wk v v') : Pure P f args v' := fun S =>
  (h S).weakR fun r S' ⟨h1, h2⟩ => by subst h1; exact ⟨v', hw, rfl, h2⟩
theorem Pure.args {P f args args' v} (h : WkL args args') (k : Pure P f args' v) : Pure P f args v := fun S => ACalls.args h (k S)
end Go.Proofs.Ytmlllckecalaaaa.Eng

namespace Go.Proofs.Ytmlllckecalaaaa.Eng
open Go Go.Proofs.Try

@[irreducible] def B8 : LCode :=
  (LCode.region [⟨none, [(some 1, LOp.box 24 (LX.tmp 0)), (some 2, LOp.mv (LX.con (AV.bool false)))]⟩]).seq (((LCode.region [⟨none, [(some 9, LOp.load true 5 (LX.tmp 1)), (some 10, LOp.call 12 [LX.tmp 9]), (some 11, LOp.bin
    BinOp.gtr (LX.tmp 10) (LX.con (AV.int IntKind.i64 500)))]⟩]).seq (LCode.cond (LX.tmp 11) ((LCode.region [⟨none, [(some 12, LOp.call 13 []), (some 2, LOp.mv (LX.tmp 12))]⟩]).seq LCode.ret) LCode.skip)).seq ((LCode.region [⟨none,
    [(some 14, LOp.load true 5 (LX.tmp 1)), (some 15, LOp.call 15 [LX.tmp 14]), (some 13, LOp.mv (LX.tmp 15)), (some 16, LOp.extr 0 (LX.tmp 13)), (some 17, LOp.extr 1 (LX.tmp 13)), (some 3, LOp.mv (LX.tmp 16)), (some 4, LOp.mv
    (LX.tmp 17))]⟩]).seq (((LCode.region [⟨none, [(some 18, LOp.mv (LX.tmp 4)), (some 19, LOp.bin BinOp.neq (LX.tmp 18) (LX.con (AV.int IntKind.i64 0)))]⟩]).seq (LCode.cond (LX.tmp 19) ((LCode.region [⟨none, [(some 20, LOp.call 13
    []), (some 21, LOp.mv (LX.tmp 20))]⟩, ⟨some (21, true), [(some 22, LOp.mv (LX.tmp 3)), (some 23, LOp.bin BinOp.eql (LX.tmp 22) (LX.con (AV.str [])))]⟩, ⟨none, [(some 24, LOp.pick (LX.tmp 21) (LX.tmp 23) (LX.con (AV.bool
    false))), (some 2, LOp.mv (LX.tmp 24))]⟩]).seq LCode.ret) LCode.skip)).seq ((LCode.region [⟨none, [(some 26, LOp.mv (LX.tmp 3)), (some 27, LOp.call 40 [LX.tmp 26]), (some 25, LOp.mv (LX.tmp 27)), (some 28, LOp.extr 0 (LX.tmp
    25)), (some 29, LOp.extr 1 (LX.tmp 25)), (some 5, LOp.alloc 24 [AV.int IntKind.i64 0, AV.int IntKind.i64 0, AV.bool false, AV.str [], AV.lit (Value.slice none 0 0)]), (none, LOp.store 5 (LX.tmp 5) (LX.tmp 28)), (some 6, LOp.mv
    (LX.tmp 29))]⟩]).seq ((LCode.region [⟨none, [(some 31, LOp.mv (LX.tmp 3)), (some 32, LOp.call 19 [LX.tmp 31]), (some 30, LOp.mv (LX.tmp 32)), (some 33, LOp.extr 0 (LX.tmp 30)), (some 34, LOp.extr 1 (LX.tmp 30)), (some 7, LOp.mv
    (LX.tmp 33)), (some 8, LOp.mv (LX.tmp 34))]⟩]).seq ((LCode.region [⟨none, [(some 35, LOp.call 13 []), (some 36, LOp.mv (LX.tmp 35))]⟩, ⟨some (36, true), [(some 37, LOp.mv (LX.tmp 6)), (some 38, LOp.bin BinOp.eql (LX.tmp 37)
    (LX.con (AV.int IntKind.i64 0)))]⟩, ⟨none, [(some 39, LOp.pick (LX.tmp 36) (LX.tmp 38) (LX.con (AV.bool false))), (some 40, LOp.mv (LX.tmp 39))]⟩, ⟨some (40, true), [(some 41, LOp.mv (LX.tmp 8)), (some 42, LOp.bin BinOp.eql
    (LX.tmp 41) (LX.con (AV.int IntKind.i64 0)))]⟩, ⟨none, [(some 43, LOp.pick (LX.tmp 40) (LX.tmp 42) (LX.con (AV.bool false))), (some 44, LOp.mv (LX.tmp 43))]⟩, ⟨some (44, true), [(some 45, LOp.mv (LX.tmp 7)), (some 46, LOp.mv
    (LX.tmp 3)), (some 47, LOp.lenS (LX.tmp 46)), (some 48, LOp.bin BinOp.eql (LX.tmp 45) (LX.tmp 47))]⟩, ⟨none, [(some 49, LOp.pick (LX.tmp 44) (LX.tmp 48) (LX.con (AV.bool false))), (some 50, LOp.mv (LX.tmp 49))]⟩, ⟨some (50,
    true), [(some 51, LOp.load true 5 (LX.tmp 5)), (some 52, LOp.load true 5 (LX.tmp 1)), (some 53, LOp.call 17 [LX.tmp 51, LX.tmp 52])]⟩, ⟨none, [(some 54, LOp.pick (LX.tmp 50) (LX.tmp 53) (LX.con (AV.bool false))), (some 2, LOp.mv
    (LX.tmp 54))]⟩]).seq LCode.ret))))))
theorem low8 : lowerF prog 8 = some ⟨55, [LRes.tmp 2], B8⟩ := by kernel_rfl

@[irreducible] def B9 : LCode :=
  (LCode.region [⟨none, [(some 2, LOp.mv (LX.con (AV.bool false)))]⟩]).seq (((LCode.region [⟨none, [(some 11, LOp.mv (LX.tmp 0)), (some 12, LOp.lenS (LX.tmp 11)), (some 13, LOp.bin BinOp.gtr (LX.tmp 12) (LX.con (AV.int IntKind.i64
    70000)))]⟩]).seq (LCode.cond (LX.tmp 13) ((LCode.region [⟨none, [(some 14, LOp.call 13 []), (some 2, LOp.mv (LX.tmp 14))]⟩]).seq LCode.ret) LCode.skip)).seq ((LCode.region [⟨none, [(some 16, LOp.mv (LX.tmp 0)), (some 17,
    LOp.call 40 [LX.tmp 16]), (some 15, LOp.mv (LX.tmp 17)), (some 18, LOp.extr 0 (LX.tmp 15)), (some 19, LOp.extr 1 (LX.tmp 15)), (some 3, LOp.alloc 24 [AV.int IntKind.i64 0, AV.int IntKind.i64 0, AV.bool false, AV.str [], AV.lit
    (Value.slice none 0 0)]), (none, LOp.store 5 (LX.tmp 3) (LX.tmp 18)), (some 4, LOp.mv (LX.tmp 19))]⟩]).seq (((LCode.region [⟨none, [(some 20, LOp.mv (LX.tmp 4)), (some 21, LOp.bin BinOp.neq (LX.tmp 20) (LX.con (AV.int
    IntKind.i64 0)))]⟩]).seq (LCode.cond (LX.tmp 21) ((LCode.region [⟨none, [(some 22, LOp.call 13 []), (some 2, LOp.mv (LX.tmp 22))]⟩]).seq LCode.ret) LCode.skip)).seq ((LCode.region [⟨none, [(some 24, LOp.load true 5 (LX.tmp 3)),
    (some 25, LOp.call 15 [LX.tmp 24]), (some 23, LOp.mv (LX.tmp 25)), (some 26, LOp.extr 0 (LX.tmp 23)), (some 27, LOp.extr 1 (LX.tmp 23)), (some 5, LOp.mv (LX.tmp 26)), (some 6, LOp.mv (LX.tmp 27))]⟩]).seq ((LCode.region [⟨none,
    [(some 29, LOp.mv (LX.tmp 5)), (some 30, LOp.call 40 [LX.tmp 29]), (some 28, LOp.mv (LX.tmp 30)), (some 31, LOp.extr 0 (LX.tmp 28)), (some 32, LOp.extr 1 (LX.tmp 28)), (some 7, LOp.alloc 24 [AV.int IntKind.i64 0, AV.int
    IntKind.i64 0, AV.bool false, AV.str [], AV.lit (Value.slice none 0 0)]), (none, LOp.store 5 (LX.tmp 7) (LX.tmp 31)), (some 8, LOp.mv (LX.tmp 32))]⟩]).seq ((LCode.region [⟨none, [(some 34, LOp.load true 5 (LX.tmp 7)), (some 35,
    LOp.call 15 [LX.tmp 34]), (some 33, LOp.mv (LX.tmp 35)), (some 36, LOp.extr 0 (LX.tmp 33)), (some 37, LOp.extr 1 (LX.tmp 33)), (some 9, LOp.mv (LX.tmp 36)), (some 10, LOp.mv (LX.tmp 37))]⟩]).seq ((LCode.region [⟨none, [(some 38,
    LOp.call 13 []), (some 39, LOp.mv (LX.tmp 38))]⟩, ⟨some (39, true), [(some 40, LOp.mv (LX.tmp 6)), (some 41, LOp.bin BinOp.eql (LX.tmp 40) (LX.con (AV.int IntKind.i64 0)))]⟩, ⟨none, [(some 42, LOp.pick (LX.tmp 39) (LX.tmp 41)
    (LX.con (AV.bool false))), (some 43, LOp.mv (LX.tmp 42))]⟩, ⟨some (43, true), [(some 44, LOp.mv (LX.tmp 8)), (some 45, LOp.bin BinOp.eql (LX.tmp 44) (LX.con (AV.int IntKind.i64 0)))]⟩, ⟨none, [(some 46, LOp.pick (LX.tmp 43)
    (LX.tmp 45) (LX.con (AV.bool false))), (some 47, LOp.mv (LX.tmp 46))]⟩, ⟨some (47, true), [(some 48, LOp.mv (LX.tmp 10)), (some 49, LOp.bin BinOp.eql (LX.tmp 48) (LX.con (AV.int IntKind.i64 0)))]⟩, ⟨none, [(some 50, LOp.pick
    (LX.tmp 47) (LX.tmp 49) (LX.con (AV.bool false))), (some 51, LOp.mv (LX.tmp 50))]⟩, ⟨some (51, true), [(some 52, LOp.mv (LX.tmp 5)), (some 53, LOp.lenS (LX.tmp 52)), (some 54, LOp.mv (LX.tmp 0)), (some 55, LOp.lenS (LX.tmp 54)),
    (some 56, LOp.bin BinOp.leq (LX.tmp 53) (LX.tmp 55))]⟩, ⟨none, [(some 57, LOp.pick (LX.tmp 51) (LX.tmp 56) (LX.con (AV.bool false))), (some 58, LOp.mv (LX.tmp 57))]⟩, ⟨some (58, true), [(some 59, LOp.mv (LX.tmp 5)), (some 60,
    LOp.mv (LX.tmp 9)), (some 61, LOp.bin BinOp.eql (LX.tmp 59) (LX.tmp 60))]⟩, ⟨none, [(some 62, LOp.pick (LX.tmp 58) (LX.tmp 61) (LX.con (AV.bool false))), (some 63, LOp.mv (LX.tmp 62))]⟩, ⟨some (63, true), [(some 64, LOp.load
    true 5 (LX.tmp 3)), (some 65, LOp.load true 5 (LX.tmp 7)), (some 66, LOp.call 17 [LX.tmp 64, LX.tmp 65])]⟩, ⟨none, [(some 67, LOp.pick (LX.tmp 63) (LX.tmp 66) (LX.con (AV.bool false))), (some 2, LOp.mv (LX.tmp 67))]⟩]).seq
    LCode.ret)))))))
theorem low9 : lowerF prog 9 = some ⟨68, [LRes.tmp 2], B9⟩ := by kernel_rfl

@[irreducible] def B10 : LCode :=
  (LCode.region [⟨none, [(some 3, LOp.box 24 (LX.tmp 0)), (some 6, LOp.mv (LX.con (AV.bool false)))]⟩]).seq (((LCode.region [⟨none, [(some 13, LOp.load true 5 (LX.tmp 3)), (some 14, LOp.call 12 [LX.tmp 13]), (some 15, LOp.bin
    BinOp.gtr (LX.tmp 14) (LX.con (AV.int IntKind.i64 500))), (some 16, LOp.mv (LX.tmp 15))]⟩, ⟨some (16, false), [(some 17, LOp.mv (LX.tmp 2)), (some 18, LOp.lenS (LX.tmp 17)), (some 19, LOp.bin BinOp.gtr (LX.tmp 18) (LX.con
    (AV.int IntKind.i64 1000)))]⟩, ⟨none, [(some 20, LOp.pick (LX.tmp 16) (LX.con (AV.bool true)) (LX.tmp 19))]⟩]).seq (LCode.cond (LX.tmp 20) ((LCode.region [⟨none, [(some 21, LOp.call 13 []), (some 6, LOp.mv (LX.tmp 21))]⟩]).seq
    LCode.ret) LCode.skip)).seq ((LCode.region [⟨none, [(some 23, LOp.load true 5 (LX.tmp 3)), (some 24, LOp.call 15 [LX.tmp 23]), (some 22, LOp.mv (LX.tmp 24)), (some 25, LOp.extr 0 (LX.tmp 22)), (some 26, LOp.extr 1 (LX.tmp 22)),
    (some 7, LOp.mv (LX.tmp 25)), (some 8, LOp.mv (LX.tmp 26))]⟩]).seq (((LCode.region [⟨none, [(some 27, LOp.mv (LX.tmp 8)), (some 28, LOp.bin BinOp.neq (LX.tmp 27) (LX.con (AV.int IntKind.i64 0)))]⟩]).seq (LCode.cond (LX.tmp 28)
    ((LCode.region [⟨none, [(some 29, LOp.call 13 []), (some 6, LOp.mv (LX.tmp 29))]⟩]).seq LCode.ret) LCode.skip)).seq (((LCode.region [⟨none, [(some 30, LOp.mv (LX.tmp 7)), (some 31, LOp.lenS (LX.tmp 30)), (some 32, LOp.bin
    BinOp.eql (LX.tmp 31) (LX.con (AV.int IntKind.i64 0)))]⟩]).seq (LCode.cond (LX.tmp 32) ((LCode.region [⟨none, [(some 6, LOp.mv (LX.con (AV.bool false)))]⟩]).seq LCode.ret) LCode.skip)).seq ((LCode.region [⟨none, [(some 33,
    LOp.mv (LX.tmp 1)), (some 34, LOp.mv (LX.tmp 7)), (some 35, LOp.lenS (LX.tmp 34)), (some 36, LOp.bin BinOp.rem (LX.tmp 33) (LX.tmp 35)), (some 1, LOp.mv (LX.tmp 36))]⟩]).seq (((LCode.region [⟨none, [(some 37, LOp.mv (LX.tmp 1)),
    (some 38, LOp.bin BinOp.lss (LX.tmp 37) (LX.con (AV.int IntKind.i64 0)))]⟩]).seq (LCode.cond (LX.tmp 38) (LCode.region [⟨none, [(some 39, LOp.mv (LX.tmp 1)), (some 40, LOp.mv (LX.tmp 7)), (some 41, LOp.lenS (LX.tmp 40)), (some
    42, LOp.bin BinOp.add (LX.tmp 39) (LX.tmp 41)), (some 1, LOp.mv (LX.tmp 42))]⟩]) LCode.skip)).seq ((LCode.region [⟨none, [(some 44, LOp.mv (LX.tmp 7)), (some 45, LOp.mv (LX.tmp 1)), (some 46, LOp.slcS (LX.tmp 44) none (some
    (LX.tmp 45))), (some 47, LOp.call 40 [LX.tmp 46]), (some 43, LOp.mv (LX.tmp 47)), (some 48, LOp.extr 0 (LX.tmp 43)), (some 49, LOp.extr 1 (LX.tmp 43)), (some 9, LOp.alloc 24 [AV.int IntKind.i64 0, AV.int IntKind.i64 0, AV.bool
    false, AV.str [], AV.lit (Value.slice none 0 0)]), (none, LOp.store 5 (LX.tmp 9) (LX.tmp 48)), (some 10, LOp.mv (LX.tmp 49))]⟩]).seq ((LCode.region [⟨none, [(some 51, LOp.mv (LX.tmp 7)), (some 52, LOp.mv (LX.tmp 2)), (some 53,
    LOp.bin BinOp.add (LX.tmp 51) (LX.tmp 52)), (some 54, LOp.call 40 [LX.tmp 53]), (some 50, LOp.mv (LX.tmp 54)), (some 55, LOp.extr 0 (LX.tmp 50)), (some 56, LOp.extr 1 (LX.tmp 50)), (some 11, LOp.alloc 24 [AV.int IntKind.i64 0,
    AV.int IntKind.i64 0, AV.bool false, AV.str [], AV.lit (Value.slice none 0 0)]), (none, LOp.store 5 (LX.tmp 11) (LX.tmp 55)), (some 12, LOp.mv (LX.tmp 56))]⟩]).seq ((LCode.region [⟨none, [(some 57, LOp.call 13 []), (some 58,
    LOp.mv (LX.tmp 57))]⟩, ⟨some (58, true), [(some 59, LOp.mv (LX.tmp 10)), (some 60, LOp.bin BinOp.eql (LX.tmp 59) (LX.con (AV.int IntKind.i64 20)))]⟩, ⟨none, [(some 61, LOp.pick (LX.tmp 58) (LX.tmp 60) (LX.con (AV.bool false))),
    (some 62, LOp.mv (LX.tmp 61))]⟩, ⟨some (62, true), [(some 63, LOp.mv (LX.tmp 2)), (some 64, LOp.bin BinOp.eql (LX.tmp 63) (LX.con (AV.str []))), (some 65, LOp.mv (LX.tmp 64))]⟩, ⟨some (65, true), [(some 66, LOp.mv (LX.tmp 12)),
    (some 67, LOp.bin BinOp.eql (LX.tmp 66) (LX.con (AV.int IntKind.i64 0)))]⟩, ⟨some (62, true), [(some 68, LOp.pick (LX.tmp 65) (LX.tmp 67) (LX.con (AV.bool false))), (some 69, LOp.mv (LX.tmp 68))]⟩, ⟨some (69, false), [(some 70,
    LOp.mv (LX.tmp 2)), (some 71, LOp.bin BinOp.neq (LX.tmp 70) (LX.con (AV.str []))), (some 72, LOp.mv (LX.tmp 71))]⟩, ⟨some (72, true), [(some 73, LOp.mv (LX.tmp 12)), (some 74, LOp.bin BinOp.eql (LX.tmp 73) (LX.con (AV.int
    IntKind.i64 25)))]⟩, ⟨some (69, false), [(some 75, LOp.pick (LX.tmp 72) (LX.tmp 74) (LX.con (AV.bool false)))]⟩, ⟨some (62, true), [(some 76, LOp.pick (LX.tmp 69) (LX.con (AV.bool true)) (LX.tmp 75))]⟩, ⟨none, [(some 77,
    LOp.pick (LX.tmp 62) (LX.tmp 76) (LX.con (AV.bool false))), (some 6, LOp.mv (LX.tmp 77))]⟩]).seq LCode.ret)))))))))
theorem low10 : lowerF prog 10 = some ⟨78, [LRes.tmp 6], B10⟩ := by kernel_rfl

@[irreducible] def B11 : LCode :=
  (LCode.region [⟨none, [(some 2, LOp.mv (LX.con (AV.bool false)))]⟩]).seq (((LCode.region [⟨none, [(some 10, LOp.mv (LX.tmp 0)), (some 11, LOp.bin BinOp.lss (LX.tmp 10) (LX.con (AV.int IntKind.i64 1))), (some 12, LOp.mv (LX.tmp
    11))]⟩, ⟨some (12, false), [(some 13, LOp.mv (LX.tmp 0)), (some 14, LOp.bin BinOp.gtr (LX.tmp 13) (LX.con (AV.int IntKind.i64 60)))]⟩, ⟨none, [(some 15, LOp.pick (LX.tmp 12) (LX.con (AV.bool true)) (LX.tmp 14))]⟩]).seq
    (LCode.cond (LX.tmp 15) ((LCode.region [⟨none, [(some 16, LOp.call 13 []), (some 2, LOp.mv (LX.tmp 16))]⟩]).seq LCode.ret) LCode.skip)).seq ((LCode.region [⟨none, [(some 17, LOp.call 21 [LX.con (AV.int IntKind.i64 4), LX.con
    (AV.str [120])]), (some 3, LOp.alloc 24 [AV.int IntKind.i64 0, AV.int IntKind.i64 0, AV.bool false, AV.str [], AV.lit (Value.slice none 0 0)]), (none, LOp.store 5 (LX.tmp 3) (LX.tmp 17))]⟩]).seq ((LCode.region [⟨none, [(some 4,
    LOp.mv (LX.con (AV.str [4, 1, 120])))]⟩]).seq (((LCode.region [⟨none, [(some 5, LOp.mv (LX.con (AV.int IntKind.i64 1)))]⟩]).seq (LCode.block 0 (((LCode.region [⟨none, [(some 18, LOp.mv (LX.tmp 5)), (some 19, LOp.mv (LX.tmp 0)),
    (some 20, LOp.bin BinOp.lss (LX.tmp 18) (LX.tmp 19))]⟩]).seq (LCode.cond (LX.tmp 20) LCode.skip (LCode.exit 0))).seq ((LCode.block 1 ((LCode.region [⟨none, [(some 23, LOp.load true 5 (LX.tmp 3)), (some 24, LOp.bslice 24 5
    [LX.tmp 23]), (some 25, LOp.call 23 [LX.tmp 24]), (none, LOp.store 5 (LX.tmp 3) (LX.tmp 25))]⟩]).seq (LCode.region [⟨none, [(some 26, LOp.mv (LX.tmp 4)), (some 27, LOp.lenS (LX.tmp 26)), (some 28, LOp.cvt (Cvt.int IntKind.u8)
    (LX.tmp 27)), (some 29, LOp.bslice 5 1 [LX.tmp 28]), (some 30, LOp.cvt Cvt.b2s (LX.tmp 29)), (some 31, LOp.bin BinOp.add (LX.con (AV.str [48])) (LX.tmp 30)), (some 32, LOp.mv (LX.tmp 4)), (some 33, LOp.bin BinOp.add (LX.tmp 31)
    (LX.tmp 32)), (some 4, LOp.mv (LX.tmp 33))]⟩]))).seq (LCode.region [⟨none, [(some 21, LOp.mv (LX.tmp 5)), (some 22, LOp.bin BinOp.add (LX.tmp 21) (LX.con (AV.int IntKind.i64 1))), (some 5, LOp.mv (LX.tmp 22))]⟩]))).loop)).seq
    (((LCode.region [⟨none, [(some 34, LOp.mv (LX.tmp 4)), (some 35, LOp.lenS (LX.tmp 34)), (some 36, LOp.bin BinOp.gtr (LX.tmp 35) (LX.con (AV.int IntKind.i64 120)))]⟩]).seq (LCode.cond (LX.tmp 36) ((LCode.region [⟨none, [(some 37,
    LOp.call 13 []), (some 2, LOp.mv (LX.tmp 37))]⟩]).seq LCode.ret) LCode.skip)).seq ((LCode.region [⟨none, [(some 39, LOp.load true 5 (LX.tmp 3)), (some 40, LOp.call 15 [LX.tmp 39]), (some 38, LOp.mv (LX.tmp 40)), (some 41,
    LOp.extr 0 (LX.tmp 38)), (some 42, LOp.extr 1 (LX.tmp 38)), (some 6, LOp.mv (LX.tmp 41)), (some 7, LOp.mv (LX.tmp 42))]⟩]).seq ((LCode.region [⟨none, [(some 44, LOp.mv (LX.tmp 4)), (some 45, LOp.call 40 [LX.tmp 44]), (some 43,
    LOp.mv (LX.tmp 45)), (some 46, LOp.extr 0 (LX.tmp 43)), (some 47, LOp.extr 1 (LX.tmp 43)), (some 8, LOp.alloc 24 [AV.int IntKind.i64 0, AV.int IntKind.i64 0, AV.bool false, AV.str [], AV.lit (Value.slice none 0 0)]), (none,
    LOp.store 5 (LX.tmp 8) (LX.tmp 46)), (some 9, LOp.mv (LX.tmp 47))]⟩]).seq (((LCode.region [⟨none, [(some 48, LOp.mv (LX.tmp 0)), (some 49, LOp.bin BinOp.gtr (LX.tmp 48) (LX.con (AV.int IntKind.i64 20)))]⟩]).seq (LCode.cond
    (LX.tmp 49) ((LCode.region [⟨none, [(some 50, LOp.call 13 []), (some 51, LOp.mv (LX.tmp 50))]⟩, ⟨some (51, true), [(some 52, LOp.mv (LX.tmp 7)), (some 53, LOp.bin BinOp.eql (LX.tmp 52) (LX.con (AV.int IntKind.i64 23)))]⟩, ⟨none,
    [(some 54, LOp.pick (LX.tmp 51) (LX.tmp 53) (LX.con (AV.bool false))), (some 55, LOp.mv (LX.tmp 54))]⟩, ⟨some (55, true), [(some 56, LOp.mv (LX.tmp 9)), (some 57, LOp.bin BinOp.eql (LX.tmp 56) (LX.con (AV.int IntKind.i64
    23)))]⟩, ⟨none, [(some 58, LOp.pick (LX.tmp 55) (LX.tmp 57) (LX.con (AV.bool false))), (some 59, LOp.mv (LX.tmp 58))]⟩, ⟨some (59, true), [(some 60, LOp.mv (LX.tmp 6)), (some 61, LOp.bin BinOp.eql (LX.tmp 60) (LX.con (AV.str
    [])))]⟩, ⟨none, [(some 62, LOp.pick (LX.tmp 59) (LX.tmp 61) (LX.con (AV.bool false))), (some 2, LOp.mv (LX.tmp 62))]⟩]).seq LCode.ret) LCode.skip)).seq ((LCode.region [⟨none, [(some 63, LOp.call 13 []), (some 64, LOp.mv (LX.tmp
    63))]⟩, ⟨some (64, true), [(some 65, LOp.mv (LX.tmp 7)), (some 66, LOp.bin BinOp.eql (LX.tmp 65) (LX.con (AV.int IntKind.i64 0)))]⟩, ⟨none, [(some 67, LOp.pick (LX.tmp 64) (LX.tmp 66) (LX.con (AV.bool false))), (some 68, LOp.mv
    (LX.tmp 67))]⟩, ⟨some (68, true), [(some 69, LOp.mv (LX.tmp 9)), (some 70, LOp.bin BinOp.eql (LX.tmp 69) (LX.con (AV.int IntKind.i64 0)))]⟩, ⟨none, [(some 71, LOp.pick (LX.tmp 68) (LX.tmp 70) (LX.con (AV.bool false))), (some 72,
    LOp.mv (LX.tmp 71))]⟩, ⟨some (72, true), [(some 73, LOp.mv (LX.tmp 6)), (some 74, LOp.mv (LX.tmp 4)), (some 75, LOp.bin BinOp.eql (LX.tmp 73) (LX.tmp 74))]⟩, ⟨none, [(some 76, LOp.pick (LX.tmp 72) (LX.tmp 75) (LX.con (AV.bool
    false))), (some 77, LOp.mv (LX.tmp 76))]⟩, ⟨some (77, true), [(some 78, LOp.load true 5 (LX.tmp 8)), (some 79, LOp.load true 5 (LX.tmp 3)), (some 80, LOp.call 17 [LX.tmp 78, LX.tmp 79])]⟩, ⟨none, [(some 81, LOp.pick (LX.tmp 77)
    (LX.tmp 80) (LX.con (AV.bool false))), (some 2, LOp.mv (LX.tmp 81))]⟩]).seq LCode.ret)))))))))
theorem low11 : lowerF prog 11 = some ⟨82, [LRes.tmp 2], B11⟩ := by kernel_rfl


end Go.Proofs.Ytmlllckecalaaaa.Eng
