import GoSem.Claim
import GoSem.ClaimJoined
import Derived.ChangeArms
import Derived.Deep.Slices
import Derived.WideShapes
import Derived.WalkKit
import Derived.ProofKit
import Derived.OpenShut
import Derived.ShutString
import Derived.ChangeOld
import Derived.Below
import Derived.SizedLaws
import Derived.JoinedCond
import Derived.Deep.CondSized
import Derived.JoinedOf
import Derived.Test.YtmlllckecalaaaaRows
import Derived.Test.YtmlllckecalaaaaBeef3af37
set_option linter.unusedVariables false
set_option linter.unusedSimpArgs false
namespace Go.Proofs.Ytmlllckecalaaaa.Eng
open Go Go.Proofs.Try

def strE (tag : Int) (s : List UInt8) : Elem := .mk 0 tag false s [] []
theorem encE_strE (tag : Int) (s : List UInt8) : encE (strE tag s) = [.int .i64 0, .int .i64 tag, .bool false, .str s, .sl 5 [] 0] := rfl
theorem wk_strE (tag : Int) (s : List UInt8) : Wk (.agg [.int .i64 0, .int .i64 tag, .bool false, .str s, .lit (.slice none 0 0)]) (.agg (encE (strE tag s))) :=
  Wk.agg (.cons (Wk.refl _) (.cons (Wk.refl _) (.cons (Wk.refl _) (.cons (Wk.refl _) (.cons (Wk.nil 5) .nil)))))

theorem c21 (tag : Int) (s : List UInt8) : Pure prog 21 [.int .i64 tag, .str s] (.agg (encE (strE tag s))) := by
  refine Pure.weak (Pure.of (v := .agg [.int .i64 0, .int .i64 tag, .bool false, .str s, .lit (.slice none 0 0)]) (fun _ _ => by simp only [nm, nmL, and_self]) fun S => acalls_of_vc low21 (by simp) ?_) (wk_strE tag s)
  have hx := (Ext.refl S).push
  simp -implicitDefEqProofs only [B21, vc_region, vc_quiet, vcD_nil, vcD_val, vcD_eff, vcD_guard, vcDOut, vcDEff, vcDGuard, saysAll, pendAll, pendNext, addPend, Says, vc_bad, vc_seq, vc_ret, vc_skip, vc_cond, vcCond, vc_block, vc_exit, vcGrps_nil, vcGrps_cons, vcGrps_guard, vcGuard, vcOps_nil, vcOps_cons, vcOut, KCall_ret, KCall_pan, skipF_nil, skipF_cons, Qseq_normal, Qseq_ret, Qseq_exit, Qseq_pan, Qblk_normal, Qblk_exit, Qblk_ret, Qblk_pan, Qpan_eq, Qcut_normal, Qcut_exit, Qcut_ret, Qcut_pan, Qloop_normal, Qloop_exit, Qloop_ret, Qloop_pan,
    stepOp, ev, upd_apply, putF, cellsOf, deref, faddrV, mk, abin, abinI, abinS, ibits, aeqb, aun, fldV, idxOf, elems, isPtr, putRef, splice, fillA, rowsA, minV, peqV, elemsA, rowBytes, strOf, Store.get_push, Store.get_set, Store.n_push, Store.n_set,
    Option.map_some, Option.map_none, reduceIte, Nat.reduceEqDiff, Nat.reduceAdd, Nat.reduceLeDiff, Nat.reduceLT, Nat.zero_add, Nat.add_zero, Nat.add_assoc, Nat.add_left_cancel_iff, Nat.left_eq_add, Nat.add_eq_left, Nat.lt_irrefl, Nat.le_refl,
    List.drop_zero, List.drop_succ_cons, List.take_succ_cons, List.take_zero, List.headD_cons, List.length_cons, List.length_nil, List.getElem?_cons_zero, List.getElem?_cons_succ, List.set_cons_zero, List.set_cons_succ, List.map_cons, List.map_nil,
    Bool.not_true, Bool.not_false, Bool.false_eq_true, Bool.true_eq_false, Bool.not_eq_true', Bool.not_eq_false', eq_self, false_imp_iff, true_imp_iff, and_true, true_and, and_false, false_and, or_true, true_or, initFr, fr0_at, Qend, resL, resV1, pack,
    decide_eq_true_eq, decide_eq_false_iff_not, Int.toNat_natCast, Option.some.injEq, exists_eq_left', vcCond_T, vcCond_F]
  exact (hx _).set _ _ (Nat.le_refl _)
theorem c25 (tag : Int) (s : List UInt8) : Pure prog 25 [.int .i64 tag, .str s] (.agg (encE (strE tag s))) := by
  refine Pure.weak (Pure.of (v := .agg [.int .i64 0, .int .i64 tag, .bool false, .str s, .lit (.slice none 0 0)]) (fun _ _ => by simp only [nm, nmL, and_self]) fun S => acalls_of_vc low25 (by simp) ?_) (wk_strE tag s)
  have hx := (Ext.refl S).push
  simp -implicitDefEqProofs only [B25, vc_region, vc_quiet, vcD_nil, vcD_val, vcD_eff, vcD_guard, vcDOut, vcDEff, vcDGuard, saysAll, pendAll, pendNext, addPend, Says, vc_bad, vc_seq, vc_ret, vc_skip, vc_cond, vcCond, vc_block, vc_exit, vcGrps_nil, vcGrps_cons, vcGrps_guard, vcGuard, vcOps_nil, vcOps_cons, vcOut, KCall_ret, KCall_pan, skipF_nil, skipF_cons, Qseq_normal, Qseq_ret, Qseq_exit, Qseq_pan, Qblk_normal, Qblk_exit, Qblk_ret, Qblk_pan, Qpan_eq, Qcut_normal, Qcut_exit, Qcut_ret, Qcut_pan, Qloop_normal, Qloop_exit, Qloop_ret, Qloop_pan,
    stepOp, ev, upd_apply, putF, cellsOf, deref, faddrV, mk, abin, abinI, abinS, ibits, aeqb, aun, fldV, idxOf, elems, isPtr, putRef, splice, fillA, rowsA, minV, peqV, elemsA, rowBytes, strOf, Store.get_push, Store.get_set, Store.n_push, Store.n_set,
    Option.map_some, Option.map_none, reduceIte, Nat.reduceEqDiff, Nat.reduceAdd, Nat.reduceLeDiff, Nat.reduceLT, Nat.zero_add, Nat.add_zero, Nat.add_assoc, Nat.add_left_cancel_iff, Nat.left_eq_add, Nat.add_eq_left, Nat.lt_irrefl, Nat.le_refl,
    List.drop_zero, List.drop_succ_cons, List.take_succ_cons, List.take_zero, List.headD_cons, List.length_cons, List.length_nil, List.getElem?_cons_zero, List.getElem?_cons_succ, List.set_cons_zero, List.set_cons_succ, List.map_cons, List.map_nil,
    Bool.not_true, Bool.not_false, Bool.false_eq_true, Bool.true_eq_false, Bool.not_eq_true', Bool.not_eq_false', eq_self, false_imp_iff, true_imp_iff, and_true, true_and, and_false, false_and, or_true, true_or, initFr, fr0_at, Qend, resL, resV1, pack,
    decide_eq_true_eq, decide_eq_false_iff_not, Int.toNat_natCast, Option.some.injEq, exists_eq_left', vcCond_T, vcCond_F]
  exact (hx _).set _ _ (Nat.le_refl _)

theorem wrap_u64' (n : Int) : IntKind.u64.wrap n = n % 18446744073709551616 := by simp [IntKind.wrap, IntKind.bits, IntKind.signed]

/-! ## A number with a sign -/
def fits (k : Nat) (v : Int) : Prop := -(2 ^ (8 * k - 1) : Int) ≤ v ∧ v < 2 ^ (8 * k - 1)
instance (k : Nat) (v : Int) : Decidable (fits k v) := by unfold fits; exact inferInstance
def nOf (v : Int) : Nat := if fits 1 v then 1 else if fits 2 v then 2 else if fits 3 v then 3 else if fits 4 v then 4 else if fits 5 v then 5 else if fits 6 v then 6 else if fits 7 v then 7 else 8
def sgn (v : Int) : List UInt8 := beN (nOf v) (v % 18446744073709551616).toNat
theorem nOf_le (v : Int) : 1 ≤ nOf v ∧ nOf v ≤ 8 := by unfold nOf; repeat' split
                                                       all_goals omega
theorem nOf_step (v : Int) (k : Nat) (h1 : 1 ≤ k) (hk : k ≤ nOf v) (h : ¬ (k < 8 ∧ ¬ fits k v)) : k = nOf v := by
  have h8 := nOf_le v
  have : k = 1 ∨ k = 2 ∨ k = 3 ∨ k = 4 ∨ k = 5 ∨ k = 6 ∨ k = 7 ∨ k = 8 := by omega
  unfold nOf at hk h8 ⊢
  rcases this with rfl | rfl | rfl | rfl | rfl | rfl | rfl | rfl <;> grind
theorem nOf_more (v : Int) (k : Nat) (h1 : 1 ≤ k) (hk : k ≤ nOf v) (h : k < 8 ∧ ¬ fits k v) : k + 1 ≤ nOf v := by
  have h8 := nOf_le v
  have : k = 1 ∨ k = 2 ∨ k = 3 ∨ k = 4 ∨ k = 5 ∨ k = 6 ∨ k = 7 ∨ k = 8 := by omega
  unfold nOf at hk h8 ⊢
  rcases this with rfl | rfl | rfl | rfl | rfl | rfl | rfl | rfl <;> grind
theorem shl_shr (v : Int) (hv : i64ok v) (k : Nat) (h1 : 1 ≤ k) (h7 : k ≤ 7) :
    (v = (IntKind.i64.wrap (v * 2 ^ min (64 - 8 * (k : Int)).toNat IntKind.i64.bits)).fdiv (2 ^ min (64 - 8 * (k : Int)).toNat IntKind.i64.bits)) ↔ fits k v := by
  have hb : IntKind.i64.bits = 64 := rfl
  unfold fits
  unfold i64ok at hv
  have : k = 1 ∨ k = 2 ∨ k = 3 ∨ k = 4 ∨ k = 5 ∨ k = 6 ∨ k = 7 := by omega
  rw [hb, IntKind.wrap_i64]
  rcases this with rfl | rfl | rfl | rfl | rfl | rfl | rfl
  all_goals
    rw [Int.fdiv_eq_ediv_of_nonneg _ (by decide)]
    simp only [Int.ofNat_one, Int.reduceMul, Int.reduceSub, Int.reduceToNat, Nat.reduceMul, Nat.reduceSub, show min 56 64 = 56 from rfl, show min 48 64 = 48 from rfl, show min 40 64 = 40 from rfl, show min 32 64 = 32 from rfl, show min 24 64 = 24 from rfl, show min 16 64 = 16 from rfl, show min 8 64 = 8 from rfl, Int.reducePow, Int.cast_ofNat_Int]
    omega


theorem c53 (v : Int) (hv : i64ok v) : Pure prog 53 [.int .i64 v] (.str (sgn v)) := by
  refine Pure.of (fun _ _ => by simp only [nm]) fun S => acalls_of_vc low53 (by simp) ?_
  have hx := Ext.refl S
  obtain ⟨hn1, hn8⟩ := nOf_le v
  unfold B53
  refine vc_cut (fun fr S' => fr 0 = .int .i64 v ∧ S' = S) (by simp -implicitDefEqProofs only [vc_region, vc_quiet, vcD_nil, vcD_val, vcD_eff, vcD_guard, vcDOut, vcDEff, vcDGuard, saysAll, pendAll, pendNext, addPend, Says, vc_bad, vc_seq, vc_ret, vc_skip, vc_cond, vcCond, vc_block, vc_exit, vcGrps_nil, vcGrps_cons, vcGrps_guard, vcGuard, vcOps_nil, vcOps_cons, vcOut, KCall_ret, KCall_pan, skipF_nil, skipF_cons, Qseq_normal, Qseq_ret, Qseq_exit, Qseq_pan, Qblk_normal, Qblk_exit, Qblk_ret, Qblk_pan, Qpan_eq, Qcut_normal, Qcut_exit, Qcut_ret, Qcut_pan, Qloop_normal, Qloop_exit, Qloop_ret, Qloop_pan,
    stepOp, ev, upd_apply, putF, cellsOf, deref, faddrV, mk, abin, abinI, abinS, ibits, aeqb, aun, fldV, idxOf, elems, isPtr, putRef, splice, fillA, rowsA, minV, peqV, elemsA, rowBytes, strOf, Store.get_push, Store.get_set, Store.n_push, Store.n_set,
    Option.map_some, Option.map_none, reduceIte, Nat.reduceEqDiff, Nat.reduceAdd, Nat.reduceLeDiff, Nat.reduceLT, Nat.zero_add, Nat.add_zero, Nat.add_assoc, Nat.add_left_cancel_iff, Nat.left_eq_add, Nat.add_eq_left, Nat.lt_irrefl, Nat.le_refl,
    List.drop_zero, List.drop_succ_cons, List.take_succ_cons, List.take_zero, List.headD_cons, List.length_cons, List.length_nil, List.getElem?_cons_zero, List.getElem?_cons_succ, List.set_cons_zero, List.set_cons_succ, List.map_cons, List.map_nil,
    Bool.not_true, Bool.not_false, Bool.false_eq_true, Bool.true_eq_false, Bool.not_eq_true', Bool.not_eq_false', eq_self, false_imp_iff, true_imp_iff, and_true, true_and, and_false, false_and, or_true, true_or, initFr, fr0_at, Qend, resL, resV1, pack,
    decide_eq_true_eq, decide_eq_false_iff_not, Int.toNat_natCast, Option.some.injEq, exists_eq_left', vcCond_T, vcCond_F]) ?_
  rintro fr S' ⟨f0, rfl⟩
  refine vc_cut (fun fr T => fr 0 = .int .i64 v ∧ fr 3 = .int .i64 ((1 : Nat) : Int) ∧ T = S') (by simp -implicitDefEqProofs only [f0, vc_region, vc_quiet, vcD_nil, vcD_val, vcD_eff, vcD_guard, vcDOut, vcDEff, vcDGuard, saysAll, pendAll, pendNext, addPend, Says, vc_bad, vc_seq, vc_ret, vc_skip, vc_cond, vcCond, vc_block, vc_exit, vcGrps_nil, vcGrps_cons, vcGrps_guard, vcGuard, vcOps_nil, vcOps_cons, vcOut, KCall_ret, KCall_pan, skipF_nil, skipF_cons, Qseq_normal, Qseq_ret, Qseq_exit, Qseq_pan, Qblk_normal, Qblk_exit, Qblk_ret, Qblk_pan, Qpan_eq, Qcut_normal, Qcut_exit, Qcut_ret, Qcut_pan, Qloop_normal, Qloop_exit, Qloop_ret, Qloop_pan,
    stepOp, ev, upd_apply, putF, cellsOf, deref, faddrV, mk, abin, abinI, abinS, ibits, aeqb, aun, fldV, idxOf, elems, isPtr, putRef, splice, fillA, rowsA, minV, peqV, elemsA, rowBytes, strOf, Store.get_push, Store.get_set, Store.n_push, Store.n_set,
    Option.map_some, Option.map_none, reduceIte, Nat.reduceEqDiff, Nat.reduceAdd, Nat.reduceLeDiff, Nat.reduceLT, Nat.zero_add, Nat.add_zero, Nat.add_assoc, Nat.add_left_cancel_iff, Nat.left_eq_add, Nat.add_eq_left, Nat.lt_irrefl, Nat.le_refl,
    List.drop_zero, List.drop_succ_cons, List.take_succ_cons, List.take_zero, List.headD_cons, List.length_cons, List.length_nil, List.getElem?_cons_zero, List.getElem?_cons_succ, List.set_cons_zero, List.set_cons_succ, List.map_cons, List.map_nil,
    Bool.not_true, Bool.not_false, Bool.false_eq_true, Bool.true_eq_false, Bool.not_eq_true', Bool.not_eq_false', eq_self, false_imp_iff, true_imp_iff, and_true, true_and, and_false, false_and, or_true, true_or, initFr, fr0_at, Qend, resL, resV1, pack,
    decide_eq_true_eq, decide_eq_false_iff_not, Int.toNat_natCast, Option.some.injEq, exists_eq_left', vcCond_T, vcCond_F]; rfl) ?_
  clear f0 fr
  rintro fr T ⟨f0, f3, rfl⟩
  refine vc_cut (fun fr S' => fr 0 = .int .i64 v ∧ fr 3 = .int .i64 (nOf v : Nat) ∧ Ext T S') ?_ ?_
  · simp -implicitDefEqProofs only [vc_region, vc_quiet, vcD_nil, vcD_val, vcD_eff, vcD_guard, vcDOut, vcDEff, vcDGuard, saysAll, pendAll, pendNext, addPend, Says, vc_bad, vc_seq, vc_ret, vc_skip, vc_cond, vcCond, vc_block, vc_exit, vcGrps_nil, vcGrps_cons, vcGrps_guard, vcGuard, vcOps_nil, vcOps_cons, vcOut, KCall_ret, KCall_pan, skipF_nil, skipF_cons, Qseq_normal, Qseq_ret, Qseq_exit, Qseq_pan, Qblk_normal, Qblk_exit, Qblk_ret, Qblk_pan, Qpan_eq, Qcut_normal, Qcut_exit, Qcut_ret, Qcut_pan, Qloop_normal, Qloop_exit, Qloop_ret, Qloop_pan,
    stepOp, ev, upd_apply, putF, cellsOf, deref, faddrV, mk, abin, abinI, abinS, ibits, aeqb, aun, fldV, idxOf, elems, isPtr, putRef, splice, fillA, rowsA, minV, peqV, elemsA, rowBytes, strOf, Store.get_push, Store.get_set, Store.n_push, Store.n_set,
    Option.map_some, Option.map_none, reduceIte, Nat.reduceEqDiff, Nat.reduceAdd, Nat.reduceLeDiff, Nat.reduceLT, Nat.zero_add, Nat.add_zero, Nat.add_assoc, Nat.add_left_cancel_iff, Nat.left_eq_add, Nat.add_eq_left, Nat.lt_irrefl, Nat.le_refl,
    List.drop_zero, List.drop_succ_cons, List.take_succ_cons, List.take_zero, List.headD_cons, List.length_cons, List.length_nil, List.getElem?_cons_zero, List.getElem?_cons_succ, List.set_cons_zero, List.set_cons_succ, List.map_cons, List.map_nil,
    Bool.not_true, Bool.not_false, Bool.false_eq_true, Bool.true_eq_false, Bool.not_eq_true', Bool.not_eq_false', eq_self, false_imp_iff, true_imp_iff, and_true, true_and, and_false, false_and, or_true, true_or, initFr, fr0_at, Qend, resL, resV1, pack,
    decide_eq_true_eq, decide_eq_false_iff_not, Int.toNat_natCast, Option.some.injEq, exists_eq_left', vcCond_T, vcCond_F]
    refine vc_loop (fun n fr S' => ∃ k, k + n = nOf v ∧ 1 ≤ k ∧ fr 0 = .int .i64 v ∧ fr 3 = .int .i64 k ∧ Ext T S') (nOf v - 1) ⟨1, by omega, by omega, f0, f3, hx⟩ ?_
    clear f0 f3 fr
    rintro n fr S' ⟨k, hkn, hk, f0, f3, hS⟩
    have hw8 : IntKind.i64.wrap (8 * (k : Int)) = 8 * k := w64 _ (by omega) (by omega)
    have hw64 : IntKind.i64.wrap (64 - 8 * (k : Int)) = 64 - 8 * k := w64 _ (by omega) (by omega)
    have hi1 : IntKind.i64.wrap ((k : Int) + 1) = k + 1 := w64 _ (by omega) (by omega)
    have hn8' : ¬ (64 - 8 * (k : Int) < 0) := by omega
    by_cases hstop : k < 8 ∧ ¬ fits k v
    · have hk8 : (k : Int) < 8 := by omega
      have hne : ¬ (v = (IntKind.i64.wrap (v * 2 ^ min (64 - 8 * (k : Int)).toNat IntKind.i64.bits)).fdiv (2 ^ min (64 - 8 * (k : Int)).toNat IntKind.i64.bits)) := fun h => hstop.2 ((shl_shr v hv k hk (by omega)).1 h)
      simp -implicitDefEqProofs only [f0, f3, ashift, hw8, hw64, hi1, hn8', hk8, hne, ne_eq, not_false_eq_true, decide_true, vc_region, vc_quiet, vcD_nil, vcD_val, vcD_eff, vcD_guard, vcDOut, vcDEff, vcDGuard, saysAll, pendAll, pendNext, addPend, Says, vc_bad, vc_seq, vc_ret, vc_skip, vc_cond, vcCond, vc_block, vc_exit, vcGrps_nil, vcGrps_cons, vcGrps_guard, vcGuard, vcOps_nil, vcOps_cons, vcOut, KCall_ret, KCall_pan, skipF_nil, skipF_cons, Qseq_normal, Qseq_ret, Qseq_exit, Qseq_pan, Qblk_normal, Qblk_exit, Qblk_ret, Qblk_pan, Qpan_eq, Qcut_normal, Qcut_exit, Qcut_ret, Qcut_pan, Qloop_normal, Qloop_exit, Qloop_ret, Qloop_pan,
    stepOp, ev, upd_apply, putF, cellsOf, deref, faddrV, mk, abin, abinI, abinS, ibits, aeqb, aun, fldV, idxOf, elems, isPtr, putRef, splice, fillA, rowsA, minV, peqV, elemsA, rowBytes, strOf, Store.get_push, Store.get_set, Store.n_push, Store.n_set,
    Option.map_some, Option.map_none, reduceIte, Nat.reduceEqDiff, Nat.reduceAdd, Nat.reduceLeDiff, Nat.reduceLT, Nat.zero_add, Nat.add_zero, Nat.add_assoc, Nat.add_left_cancel_iff, Nat.left_eq_add, Nat.add_eq_left, Nat.lt_irrefl, Nat.le_refl,
    List.drop_zero, List.drop_succ_cons, List.take_succ_cons, List.take_zero, List.headD_cons, List.length_cons, List.length_nil, List.getElem?_cons_zero, List.getElem?_cons_succ, List.set_cons_zero, List.set_cons_succ, List.map_cons, List.map_nil,
    Bool.not_true, Bool.not_false, Bool.false_eq_true, Bool.true_eq_false, Bool.not_eq_true', Bool.not_eq_false', eq_self, false_imp_iff, true_imp_iff, and_true, true_and, and_false, false_and, or_true, true_or, initFr, fr0_at, Qend, resL, resV1, pack,
    decide_eq_true_eq, decide_eq_false_iff_not, Int.toNat_natCast, Option.some.injEq, exists_eq_left', vcCond_T, vcCond_F]
      have hm := nOf_more v k hk (by omega) hstop
      clear hne
      exact ⟨n - 1, by omega, k + 1, by omega, by omega, by simp, hS⟩
    · have hkk := nOf_step v k hk (by omega) hstop
      by_cases hk8 : k < 8
      · have hk8' : (k : Int) < 8 := by omega
        have hne : v = (IntKind.i64.wrap (v * 2 ^ min (64 - 8 * (k : Int)).toNat IntKind.i64.bits)).fdiv (2 ^ min (64 - 8 * (k : Int)).toNat IntKind.i64.bits) := ((shl_shr v hv k hk (by omega)).2 (by
          by_cases hf : fits k v
          · exact hf
          · exact absurd ⟨hk8, hf⟩ hstop))
        simp -implicitDefEqProofs only [f0, f3, ashift, hw8, hw64, hi1, hn8', hk8', ← hne, ne_eq, not_true, decide_true, decide_false, vc_region, vc_quiet, vcD_nil, vcD_val, vcD_eff, vcD_guard, vcDOut, vcDEff, vcDGuard, saysAll, pendAll, pendNext, addPend, Says, vc_bad, vc_seq, vc_ret, vc_skip, vc_cond, vcCond, vc_block, vc_exit, vcGrps_nil, vcGrps_cons, vcGrps_guard, vcGuard, vcOps_nil, vcOps_cons, vcOut, KCall_ret, KCall_pan, skipF_nil, skipF_cons, Qseq_normal, Qseq_ret, Qseq_exit, Qseq_pan, Qblk_normal, Qblk_exit, Qblk_ret, Qblk_pan, Qpan_eq, Qcut_normal, Qcut_exit, Qcut_ret, Qcut_pan, Qloop_normal, Qloop_exit, Qloop_ret, Qloop_pan,
    stepOp, ev, upd_apply, putF, cellsOf, deref, faddrV, mk, abin, abinI, abinS, ibits, aeqb, aun, fldV, idxOf, elems, isPtr, putRef, splice, fillA, rowsA, minV, peqV, elemsA, rowBytes, strOf, Store.get_push, Store.get_set, Store.n_push, Store.n_set,
    Option.map_some, Option.map_none, reduceIte, Nat.reduceEqDiff, Nat.reduceAdd, Nat.reduceLeDiff, Nat.reduceLT, Nat.zero_add, Nat.add_zero, Nat.add_assoc, Nat.add_left_cancel_iff, Nat.left_eq_add, Nat.add_eq_left, Nat.lt_irrefl, Nat.le_refl,
    List.drop_zero, List.drop_succ_cons, List.take_succ_cons, List.take_zero, List.headD_cons, List.length_cons, List.length_nil, List.getElem?_cons_zero, List.getElem?_cons_succ, List.set_cons_zero, List.set_cons_succ, List.map_cons, List.map_nil,
    Bool.not_true, Bool.not_false, Bool.false_eq_true, Bool.true_eq_false, Bool.not_eq_true', Bool.not_eq_false', eq_self, false_imp_iff, true_imp_iff, and_true, true_and, and_false, false_and, or_true, true_or, initFr, fr0_at, Qend, resL, resV1, pack,
    decide_eq_true_eq, decide_eq_false_iff_not, Int.toNat_natCast, Option.some.injEq, exists_eq_left', vcCond_T, vcCond_F]
        exact ⟨by rw [hkk], hS⟩
      · have hk8' : ¬ (k : Int) < 8 := by omega
        simp -implicitDefEqProofs only [f0, f3, ashift, hw8, hw64, hi1, hn8', hk8', ne_eq, not_true, decide_true, decide_false, vc_region, vc_quiet, vcD_nil, vcD_val, vcD_eff, vcD_guard, vcDOut, vcDEff, vcDGuard, saysAll, pendAll, pendNext, addPend, Says, vc_bad, vc_seq, vc_ret, vc_skip, vc_cond, vcCond, vc_block, vc_exit, vcGrps_nil, vcGrps_cons, vcGrps_guard, vcGuard, vcOps_nil, vcOps_cons, vcOut, KCall_ret, KCall_pan, skipF_nil, skipF_cons, Qseq_normal, Qseq_ret, Qseq_exit, Qseq_pan, Qblk_normal, Qblk_exit, Qblk_ret, Qblk_pan, Qpan_eq, Qcut_normal, Qcut_exit, Qcut_ret, Qcut_pan, Qloop_normal, Qloop_exit, Qloop_ret, Qloop_pan,
    stepOp, ev, upd_apply, putF, cellsOf, deref, faddrV, mk, abin, abinI, abinS, ibits, aeqb, aun, fldV, idxOf, elems, isPtr, putRef, splice, fillA, rowsA, minV, peqV, elemsA, rowBytes, strOf, Store.get_push, Store.get_set, Store.n_push, Store.n_set,
    Option.map_some, Option.map_none, reduceIte, Nat.reduceEqDiff, Nat.reduceAdd, Nat.reduceLeDiff, Nat.reduceLT, Nat.zero_add, Nat.add_zero, Nat.add_assoc, Nat.add_left_cancel_iff, Nat.left_eq_add, Nat.add_eq_left, Nat.lt_irrefl, Nat.le_refl,
    List.drop_zero, List.drop_succ_cons, List.take_succ_cons, List.take_zero, List.headD_cons, List.length_cons, List.length_nil, List.getElem?_cons_zero, List.getElem?_cons_succ, List.set_cons_zero, List.set_cons_succ, List.map_cons, List.map_nil,
    Bool.not_true, Bool.not_false, Bool.false_eq_true, Bool.true_eq_false, Bool.not_eq_true', Bool.not_eq_false', eq_self, false_imp_iff, true_imp_iff, and_true, true_and, and_false, false_and, or_true, true_or, initFr, fr0_at, Qend, resL, resV1, pack,
    decide_eq_true_eq, decide_eq_false_iff_not, Int.toNat_natCast, Option.some.injEq, exists_eq_left', vcCond_T, vcCond_F]
        exact ⟨by rw [hkk], hS⟩
  clear f0 f3 fr
  rintro fr S' ⟨f0, f3, hS⟩
  have hwv : IntKind.u64.wrap v = (((v % 18446744073709551616).toNat : Nat) : Int) := by rw [wrap_u64']; omega
  unfold sgn
  generalize hV : (v % 18446744073709551616).toNat = V at hwv ⊢
  generalize nOf v = k at hn1 hn8 f3 ⊢
  have hk0 : (0 : Int) ≤ k := by omega
  simp -implicitDefEqProofs only [f0, f3, List.length_replicate, List.take_replicate, vc_region, vc_quiet, vcD_nil, vcD_val, vcD_eff, vcD_guard, vcDOut, vcDEff, vcDGuard, saysAll, pendAll, pendNext, addPend, Says, vc_bad, vc_seq, vc_ret, vc_skip, vc_cond, vcCond, vc_block, vc_exit, vcGrps_nil, vcGrps_cons, vcGrps_guard, vcGuard, vcOps_nil, vcOps_cons, vcOut, KCall_ret, KCall_pan, skipF_nil, skipF_cons, Qseq_normal, Qseq_ret, Qseq_exit, Qseq_pan, Qblk_normal, Qblk_exit, Qblk_ret, Qblk_pan, Qpan_eq, Qcut_normal, Qcut_exit, Qcut_ret, Qcut_pan, Qloop_normal, Qloop_exit, Qloop_ret, Qloop_pan,
    stepOp, ev, upd_apply, putF, cellsOf, deref, faddrV, mk, abin, abinI, abinS, ibits, aeqb, aun, fldV, idxOf, elems, isPtr, putRef, splice, fillA, rowsA, minV, peqV, elemsA, rowBytes, strOf, Store.get_push, Store.get_set, Store.n_push, Store.n_set,
    Option.map_some, Option.map_none, reduceIte, Nat.reduceEqDiff, Nat.reduceAdd, Nat.reduceLeDiff, Nat.reduceLT, Nat.zero_add, Nat.add_zero, Nat.add_assoc, Nat.add_left_cancel_iff, Nat.left_eq_add, Nat.add_eq_left, Nat.lt_irrefl, Nat.le_refl,
    List.drop_zero, List.drop_succ_cons, List.take_succ_cons, List.take_zero, List.headD_cons, List.length_cons, List.length_nil, List.getElem?_cons_zero, List.getElem?_cons_succ, List.set_cons_zero, List.set_cons_succ, List.map_cons, List.map_nil,
    Bool.not_true, Bool.not_false, Bool.false_eq_true, Bool.true_eq_false, Bool.not_eq_true', Bool.not_eq_false', eq_self, false_imp_iff, true_imp_iff, and_true, true_and, and_false, false_and, or_true, true_or, initFr, fr0_at, Qend, resL, resV1, pack,
    decide_eq_true_eq, decide_eq_false_iff_not, Int.toNat_natCast, Option.some.injEq, exists_eq_left', vcCond_T, vcCond_F]
  refine ⟨by unfold lenMax; omega, fun _ => ?_⟩
  refine vc_loop (fun n fr U => ∃ i, i + n = k ∧ fr 0 = .int .i64 v ∧ fr 3 = .int .i64 k ∧ fr 4 = .own S'.n 0 k ∧ fr 26 = .int .i64 k ∧ fr 27 = .int .i64 i ∧
    U.get S'.n = some (.row 5 1 0 (byteRow (List.replicate (k - i) 0 ++ beN i V))) ∧ Ext T U) k ⟨0, by simp, by simp [upd_apply, f0], by simp [upd_apply, f3], by simp [upd_apply], by simp [upd_apply], rfl, ?_, hS.push _⟩ ?_
  · simp [Store.get_push, beN, byteRow]
  clear f0 f3 fr
  rintro n fr U ⟨i, hin, f0, f3, f4, f26, f27, hrow, hU⟩
  by_cases hlt : i < k
  · have hlt' : (i : Int) < k := by omega
    have hwk : IntKind.i64.wrap ((k : Int) - 1) = k - 1 := w64 _ (by omega) (by omega)
    have hwi : IntKind.i64.wrap ((k : Int) - 1 - i) = k - 1 - i := w64 _ (by omega) (by omega)
    have hw8 : IntKind.i64.wrap (8 * (i : Int)) = 8 * i := w64 _ (by omega) (by omega)
    have hi1 : IntKind.i64.wrap ((i : Int) + 1) = i + 1 := w64 _ (by omega) (by omega)
    have hn8 : ¬ (8 * (i : Int) < 0) := by omega
    have hsh : (V : Int).fdiv (2 ^ min (8 * (i : Int)).toNat IntKind.u64.bits) = ((V / 2 ^ (8 * i) : Nat) : Int) := by
      have e : min (8 * (i : Int)).toNat IntKind.u64.bits = 8 * i := by
        have : IntKind.u64.bits = 64 := rfl
        rw [this]; omega
      rw [e, show ((2 : Int) ^ (8 * i)) = ((2 ^ (8 * i) : Nat) : Int) by push_cast; rfl, fdiv_nat]
    have hp : (0 : Int) ≤ (k : Int) - 1 - i := by omega
    have hj : ((k : Int) - 1 - i).toNat = k - 1 - i := by omega
    have hlen : (byteRow (List.replicate (k - i) 0 ++ beN i V)).length = k := by simp [byteRow, beN_length]; omega
    have hget : (byteRow (List.replicate (k - i) 0 ++ beN i V))[k - 1 - i]? = some [.int .u8 (0 : UInt8).toNat] := by
      simp only [byteRow, List.getElem?_map]
      rw [List.getElem?_append_left (by simp; omega), List.getElem?_replicate, if_pos (by omega)]; rfl
    have hset := rep_set _ (UInt8.ofNat (V / 2 ^ (8 * i))) k i (beN i V) hlt (beN_length i V) rfl
    simp -implicitDefEqProofs only [f0, f3, f4, f26, f27, ashift, hlt', hwk, hwi, hw8, hi1, hn8, hwv, hsh, hp, hj, hrow, hlen, hget, w8, decide_true, vc_region, vc_quiet, vcD_nil, vcD_val, vcD_eff, vcD_guard, vcDOut, vcDEff, vcDGuard, saysAll, pendAll, pendNext, addPend, Says, vc_bad, vc_seq, vc_ret, vc_skip, vc_cond, vcCond, vc_block, vc_exit, vcGrps_nil, vcGrps_cons, vcGrps_guard, vcGuard, vcOps_nil, vcOps_cons, vcOut, KCall_ret, KCall_pan, skipF_nil, skipF_cons, Qseq_normal, Qseq_ret, Qseq_exit, Qseq_pan, Qblk_normal, Qblk_exit, Qblk_ret, Qblk_pan, Qpan_eq, Qcut_normal, Qcut_exit, Qcut_ret, Qcut_pan, Qloop_normal, Qloop_exit, Qloop_ret, Qloop_pan,
    stepOp, ev, upd_apply, putF, cellsOf, deref, faddrV, mk, abin, abinI, abinS, ibits, aeqb, aun, fldV, idxOf, elems, isPtr, putRef, splice, fillA, rowsA, minV, peqV, elemsA, rowBytes, strOf, Store.get_push, Store.get_set, Store.n_push, Store.n_set,
    Option.map_some, Option.map_none, reduceIte, Nat.reduceEqDiff, Nat.reduceAdd, Nat.reduceLeDiff, Nat.reduceLT, Nat.zero_add, Nat.add_zero, Nat.add_assoc, Nat.add_left_cancel_iff, Nat.left_eq_add, Nat.add_eq_left, Nat.lt_irrefl, Nat.le_refl,
    List.drop_zero, List.drop_succ_cons, List.take_succ_cons, List.take_zero, List.headD_cons, List.length_cons, List.length_nil, List.getElem?_cons_zero, List.getElem?_cons_succ, List.set_cons_zero, List.set_cons_succ, List.map_cons, List.map_nil,
    Bool.not_true, Bool.not_false, Bool.false_eq_true, Bool.true_eq_false, Bool.not_eq_true', Bool.not_eq_false', eq_self, false_imp_iff, true_imp_iff, and_true, true_and, and_false, false_and, or_true, true_or, initFr, fr0_at, Qend, resL, resV1, pack,
    decide_eq_true_eq, decide_eq_false_iff_not, Int.toNat_natCast, Option.some.injEq, exists_eq_left', vcCond_T, vcCond_F]
    refine ⟨by omega, n - 1, by omega, i + 1, by omega, by simp, ?_, hU.set _ _ hS.n⟩
    rw [hset]; rfl
  · have hlt' : ¬ (i : Int) < k := by omega
    have hik : i = k := by omega
    subst hik
    have hb : bytesOf (byteRow (beN i V)) = some (beN i V) := bytesOf_byteRow _
    have hlen : (byteRow (beN i V)).length = i := by rw [byteRow_length, beN_length]
    have htk : (byteRow (beN i V)).take i = byteRow (beN i V) := by
      have := List.take_length (l := byteRow (beN i V)); rwa [hlen] at this
    simp only [Nat.sub_self, List.replicate_zero, List.nil_append] at hrow
    simp -implicitDefEqProofs only [f0, f3, f4, f26, f27, hlt', hrow, hlen, htk, hb, decide_false, vc_region, vc_quiet, vcD_nil, vcD_val, vcD_eff, vcD_guard, vcDOut, vcDEff, vcDGuard, saysAll, pendAll, pendNext, addPend, Says, vc_bad, vc_seq, vc_ret, vc_skip, vc_cond, vcCond, vc_block, vc_exit, vcGrps_nil, vcGrps_cons, vcGrps_guard, vcGuard, vcOps_nil, vcOps_cons, vcOut, KCall_ret, KCall_pan, skipF_nil, skipF_cons, Qseq_normal, Qseq_ret, Qseq_exit, Qseq_pan, Qblk_normal, Qblk_exit, Qblk_ret, Qblk_pan, Qpan_eq, Qcut_normal, Qcut_exit, Qcut_ret, Qcut_pan, Qloop_normal, Qloop_exit, Qloop_ret, Qloop_pan,
    stepOp, ev, upd_apply, putF, cellsOf, deref, faddrV, mk, abin, abinI, abinS, ibits, aeqb, aun, fldV, idxOf, elems, isPtr, putRef, splice, fillA, rowsA, minV, peqV, elemsA, rowBytes, strOf, Store.get_push, Store.get_set, Store.n_push, Store.n_set,
    Option.map_some, Option.map_none, reduceIte, Nat.reduceEqDiff, Nat.reduceAdd, Nat.reduceLeDiff, Nat.reduceLT, Nat.zero_add, Nat.add_zero, Nat.add_assoc, Nat.add_left_cancel_iff, Nat.left_eq_add, Nat.add_eq_left, Nat.lt_irrefl, Nat.le_refl,
    List.drop_zero, List.drop_succ_cons, List.take_succ_cons, List.take_zero, List.headD_cons, List.length_cons, List.length_nil, List.getElem?_cons_zero, List.getElem?_cons_succ, List.set_cons_zero, List.set_cons_succ, List.map_cons, List.map_nil,
    Bool.not_true, Bool.not_false, Bool.false_eq_true, Bool.true_eq_false, Bool.not_eq_true', Bool.not_eq_false', eq_self, false_imp_iff, true_imp_iff, and_true, true_and, and_false, false_and, or_true, true_or, initFr, fr0_at, Qend, resL, resV1, pack,
    decide_eq_true_eq, decide_eq_false_iff_not, Int.toNat_natCast, Option.some.injEq, exists_eq_left', vcCond_T, vcCond_F]
    exact hU
end Go.Proofs.Ytmlllckecalaaaa.Eng

namespace Go.Proofs.Ytmlllckecalaaaa.Eng
open Go Go.Proofs.Try

mutual
def copyE : Elem → Elem
  | .mk c t k b ks _ => .mk c t k b (copyEs ks) []
def copyEs : List Elem → List Elem
  | [] => []
  | k :: ks => copyE k :: copyEs ks
end
theorem copyEs_length : ∀ (ks : List Elem), (copyEs ks).length = ks.length
  | [] => rfl
  | k :: ks => by simp only [copyEs, List.length_cons, copyEs_length ks]
theorem copyE_eta (e : Elem) : copyE e = .mk e.cls e.tag e.cons e.bytes (copyEs e.kids) [] := by cases e; rfl
theorem copyEs_app : ∀ (a : List Elem) (k : Elem), copyEs (a ++ [k]) = copyEs a ++ [copyE k]
  | [], k => by simp [copyEs]
  | x :: a, k => by simp only [List.cons_append, copyEs, copyEs_app a k]
def lstV (ks : List Elem) (ext : List (List AV)) : AV := .sl 5 (encEs ks ++ ext) ks.length
mutual
theorem nm_copy : ∀ (e : Elem) (n : Nat), nmL n (encE (copyE e))
  | .mk c t k b ks ext, n => by
    simp only [copyE, encE, nmL, nm, and_true, true_and, List.append_nil]
    exact nm_copys ks n
theorem nm_copys : ∀ (ks : List Elem) (n : Nat), nmLL n (encEs (copyEs ks))
  | [], n => by simp only [copyEs, encEs, nmLL]
  | k :: ks, n => by simp only [copyEs, encEs, nmLL]; exact ⟨nm_copy k n, nm_copys ks n⟩
end

theorem okEs_of : ∀ (ks : List Elem), (∀ k ∈ ks, okE k) → okEs ks
  | [], _ => by simp only [okEs]
  | k :: ks, h => by simp only [okEs]; exact ⟨h k (by simp), okEs_of ks fun x hx => h x (by simp [hx])⟩

theorem c54e : ∀ (e : Elem), okE e → Pure prog 54 [lstV e.kids e.ext] (lstV (copyEs e.kids) []) := by
  intro e
  induction e using Elem.ind with
  | h e ih =>
  intro hok
  obtain ⟨_, _, hbl, hkl, hks⟩ := okE_eta hok
  unfold maxB at hkl
  by_cases h0 : e.kids = []
  · refine Pure.weak (Pure.of (v := .lit (.slice none 0 0)) (fun _ _ => by simp only [nm]) fun S => acalls_of_vc low54 (by simp) ?_) (by rw [h0]; exact Wk.nil 5)
    have hx := Ext.refl S
    unfold lstV
    rw [h0]
    simp -implicitDefEqProofs only [B54, encEs, List.nil_append, List.length_nil, List.take_zero, vc_region, vc_quiet, vcD_nil, vcD_val, vcD_eff, vcD_guard, vcDOut, vcDEff, vcDGuard, saysAll, pendAll, pendNext, addPend, Says, vc_bad, vc_seq, vc_ret, vc_skip, vc_cond, vcCond, vc_block, vc_exit, vcGrps_nil, vcGrps_cons, vcGrps_guard, vcGuard, vcOps_nil, vcOps_cons, vcOut, KCall_ret, KCall_pan, skipF_nil, skipF_cons, Qseq_normal, Qseq_ret, Qseq_exit, Qseq_pan, Qblk_normal, Qblk_exit, Qblk_ret, Qblk_pan, Qpan_eq, Qcut_normal, Qcut_exit, Qcut_ret, Qcut_pan, Qloop_normal, Qloop_exit, Qloop_ret, Qloop_pan,
    stepOp, ev, upd_apply, putF, cellsOf, deref, faddrV, mk, abin, abinI, abinS, ibits, aeqb, aun, fldV, idxOf, elems, isPtr, putRef, splice, fillA, rowsA, minV, peqV, elemsA, rowBytes, strOf, Store.get_push, Store.get_set, Store.n_push, Store.n_set,
    Option.map_some, Option.map_none, reduceIte, Nat.reduceEqDiff, Nat.reduceAdd, Nat.reduceLeDiff, Nat.reduceLT, Nat.zero_add, Nat.add_zero, Nat.add_assoc, Nat.add_left_cancel_iff, Nat.left_eq_add, Nat.add_eq_left, Nat.lt_irrefl, Nat.le_refl,
    List.drop_zero, List.drop_succ_cons, List.take_succ_cons, List.take_zero, List.headD_cons, List.length_cons, List.length_nil, List.getElem?_cons_zero, List.getElem?_cons_succ, List.set_cons_zero, List.set_cons_succ, List.map_cons, List.map_nil,
    Bool.not_true, Bool.not_false, Bool.false_eq_true, Bool.true_eq_false, Bool.not_eq_true', Bool.not_eq_false', eq_self, false_imp_iff, true_imp_iff, and_true, true_and, and_false, false_and, or_true, true_or, initFr, fr0_at, Qend, resL, resV1, pack,
    decide_eq_true_eq, decide_eq_false_iff_not, Int.toNat_natCast, Option.some.injEq, exists_eq_left', vcCond_T, vcCond_F]
    refine fun _ => vc_loop (fun n fr U => fr 3 = .lit (.slice none 0 0) ∧ fr 7 = .int .i64 0 ∧ fr 8 = .int .i64 0 ∧ U = S) 0 ⟨by simp [upd_apply], by simp [upd_apply], rfl, rfl⟩ ?_
    rintro n fr U ⟨f3, f7, f8, rfl⟩
    have h00 : ¬ (0 : Int) < 0 := by omega
    simp -implicitDefEqProofs only [f3, f7, f8, h00, decide_false, vc_region, vc_quiet, vcD_nil, vcD_val, vcD_eff, vcD_guard, vcDOut, vcDEff, vcDGuard, saysAll, pendAll, pendNext, addPend, Says, vc_bad, vc_seq, vc_ret, vc_skip, vc_cond, vcCond, vc_block, vc_exit, vcGrps_nil, vcGrps_cons, vcGrps_guard, vcGuard, vcOps_nil, vcOps_cons, vcOut, KCall_ret, KCall_pan, skipF_nil, skipF_cons, Qseq_normal, Qseq_ret, Qseq_exit, Qseq_pan, Qblk_normal, Qblk_exit, Qblk_ret, Qblk_pan, Qpan_eq, Qcut_normal, Qcut_exit, Qcut_ret, Qcut_pan, Qloop_normal, Qloop_exit, Qloop_ret, Qloop_pan,
    stepOp, ev, upd_apply, putF, cellsOf, deref, faddrV, mk, abin, abinI, abinS, ibits, aeqb, aun, fldV, idxOf, elems, isPtr, putRef, splice, fillA, rowsA, minV, peqV, elemsA, rowBytes, strOf, Store.get_push, Store.get_set, Store.n_push, Store.n_set,
    Option.map_some, Option.map_none, reduceIte, Nat.reduceEqDiff, Nat.reduceAdd, Nat.reduceLeDiff, Nat.reduceLT, Nat.zero_add, Nat.add_zero, Nat.add_assoc, Nat.add_left_cancel_iff, Nat.left_eq_add, Nat.add_eq_left, Nat.lt_irrefl, Nat.le_refl,
    List.drop_zero, List.drop_succ_cons, List.take_succ_cons, List.take_zero, List.headD_cons, List.length_cons, List.length_nil, List.getElem?_cons_zero, List.getElem?_cons_succ, List.set_cons_zero, List.set_cons_succ, List.map_cons, List.map_nil,
    Bool.not_true, Bool.not_false, Bool.false_eq_true, Bool.true_eq_false, Bool.not_eq_true', Bool.not_eq_false', eq_self, false_imp_iff, true_imp_iff, and_true, true_and, and_false, false_and, or_true, true_or, initFr, fr0_at, Qend, resL, resV1, pack,
    decide_eq_true_eq, decide_eq_false_iff_not, Int.toNat_natCast, Option.some.injEq, exists_eq_left', vcCond_T, vcCond_F]
    exact hx
  intro S
  refine ACalls.backSl (K0 := fun r S' => ∃ k, S.n ≤ k ∧ r = .ret (.own k 0 e.kids.length) ∧ S'.get k = some (.row 24 5 0 (encEs (copyEs e.kids))) ∧ Ext S S') ?_ ?_
  rotate_left
  · rintro r S' ⟨k, hk, rfl, hrow, hE⟩
    have hv : fz k 5 (encEs (copyEs e.kids)) (.own k 0 e.kids.length) = lstV (copyEs e.kids) [] := by
      simp [fz, lstV, copyEs_length]
    refine ⟨k, 24, 5, 0, _, hE, hk, hrow, ?_, ?_, ?_⟩
    · simp only [AEnd.val, fzOk, encEs_length, copyEs_length]
      intro _; omega
    · show nm S.n (fz k 5 (encEs (copyEs e.kids)) (.own k 0 e.kids.length))
      rw [hv]; simp only [nm, lstV, List.append_nil]; exact nm_copys _ _
    · show (AEnd.ret _ = _) ∧ S = S
      exact ⟨by rw [← hv]; rfl, rfl⟩
  refine acalls_of_vc low54 (by simp) ?_
  have hx := Ext.refl S
  unfold lstV
  simp -implicitDefEqProofs only [B54, encEs_take, encEs_length, vc_region, vc_quiet, vcD_nil, vcD_val, vcD_eff, vcD_guard, vcDOut, vcDEff, vcDGuard, saysAll, pendAll, pendNext, addPend, Says, vc_bad, vc_seq, vc_ret, vc_skip, vc_cond, vcCond, vc_block, vc_exit, vcGrps_nil, vcGrps_cons, vcGrps_guard, vcGuard, vcOps_nil, vcOps_cons, vcOut, KCall_ret, KCall_pan, skipF_nil, skipF_cons, Qseq_normal, Qseq_ret, Qseq_exit, Qseq_pan, Qblk_normal, Qblk_exit, Qblk_ret, Qblk_pan, Qpan_eq, Qcut_normal, Qcut_exit, Qcut_ret, Qcut_pan, Qloop_normal, Qloop_exit, Qloop_ret, Qloop_pan,
    stepOp, ev, upd_apply, putF, cellsOf, deref, faddrV, mk, abin, abinI, abinS, ibits, aeqb, aun, fldV, idxOf, elems, isPtr, putRef, splice, fillA, rowsA, minV, peqV, elemsA, rowBytes, strOf, Store.get_push, Store.get_set, Store.n_push, Store.n_set,
    Option.map_some, Option.map_none, reduceIte, Nat.reduceEqDiff, Nat.reduceAdd, Nat.reduceLeDiff, Nat.reduceLT, Nat.zero_add, Nat.add_zero, Nat.add_assoc, Nat.add_left_cancel_iff, Nat.left_eq_add, Nat.add_eq_left, Nat.lt_irrefl, Nat.le_refl,
    List.drop_zero, List.drop_succ_cons, List.take_succ_cons, List.take_zero, List.headD_cons, List.length_cons, List.length_nil, List.getElem?_cons_zero, List.getElem?_cons_succ, List.set_cons_zero, List.set_cons_succ, List.map_cons, List.map_nil,
    Bool.not_true, Bool.not_false, Bool.false_eq_true, Bool.true_eq_false, Bool.not_eq_true', Bool.not_eq_false', eq_self, false_imp_iff, true_imp_iff, and_true, true_and, and_false, false_and, or_true, true_or, initFr, fr0_at, Qend, resL, resV1, pack,
    decide_eq_true_eq, decide_eq_false_iff_not, Int.toNat_natCast, Option.some.injEq, exists_eq_left', vcCond_T, vcCond_F]
  refine fun _ => vc_loop (fun n fr U => ∃ i, i + n = e.kids.length ∧ fr 6 = .sl 5 (encEs e.kids ++ e.ext) e.kids.length ∧ fr 7 = .int .i64 e.kids.length ∧ fr 8 = .int .i64 i ∧ Ext S U ∧
    ((i = 0 ∧ fr 3 = .lit (.slice none 0 0)) ∨ ∃ k, S.n ≤ k ∧ k < U.n ∧ fr 3 = .own k 0 i ∧ U.get k = some (.row 24 5 0 (encEs (copyEs (e.kids.take i)))))) e.kids.length
    ⟨0, by simp, by simp [upd_apply], by simp [upd_apply], rfl, hx, .inl ⟨rfl, by simp [upd_apply]⟩⟩ ?_
  rintro n fr U ⟨i, hin, f6, f7, f8, hE, hrow⟩
  by_cases hlt : i < e.kids.length
  · obtain ⟨k, hk⟩ : ∃ k, e.kids[i]? = some k := ⟨_, List.getElem?_eq_getElem hlt⟩
    have hkm : k ∈ e.kids := List.mem_of_getElem? hk
    have hat := encEs_at e.kids e.ext i k hk
    have h0 : (0 : Int) ≤ i := by omega
    have hlt' : (i : Int) < e.kids.length := by omega
    have hi1 : IntKind.i64.wrap ((i : Int) + 1) = i + 1 := w64 _ (by omega) (by omega)
    have hck : [AV.int .i64 k.cls, .int .i64 k.tag, .bool k.cons, .str k.bytes, lstV (copyEs k.kids) []] = encE (copyE k) := by rw [copyE_eta]; rfl
    have hik := ih k hkm (hks k hkm)
    unfold lstV at hik
    rcases hrow with ⟨hi0, f3⟩ | ⟨r, hr1, hr2, f3, hrow⟩
    · simp -implicitDefEqProofs only [f3, f6, f7, f8, hlt, hlt', h0, hat, hi1, encE_length, encE_take5, splice_encE, decide_true, vc_region, vc_quiet, vcD_nil, vcD_val, vcD_eff, vcD_guard, vcDOut, vcDEff, vcDGuard, saysAll, pendAll, pendNext, addPend, Says, vc_bad, vc_seq, vc_ret, vc_skip, vc_cond, vcCond, vc_block, vc_exit, vcGrps_nil, vcGrps_cons, vcGrps_guard, vcGuard, vcOps_nil, vcOps_cons, vcOut, KCall_ret, KCall_pan, skipF_nil, skipF_cons, Qseq_normal, Qseq_ret, Qseq_exit, Qseq_pan, Qblk_normal, Qblk_exit, Qblk_ret, Qblk_pan, Qpan_eq, Qcut_normal, Qcut_exit, Qcut_ret, Qcut_pan, Qloop_normal, Qloop_exit, Qloop_ret, Qloop_pan,
    stepOp, ev, upd_apply, putF, cellsOf, deref, faddrV, mk, abin, abinI, abinS, ibits, aeqb, aun, fldV, idxOf, elems, isPtr, putRef, splice, fillA, rowsA, minV, peqV, elemsA, rowBytes, strOf, Store.get_push, Store.get_set, Store.n_push, Store.n_set,
    Option.map_some, Option.map_none, reduceIte, Nat.reduceEqDiff, Nat.reduceAdd, Nat.reduceLeDiff, Nat.reduceLT, Nat.zero_add, Nat.add_zero, Nat.add_assoc, Nat.add_left_cancel_iff, Nat.left_eq_add, Nat.add_eq_left, Nat.lt_irrefl, Nat.le_refl,
    List.drop_zero, List.drop_succ_cons, List.take_succ_cons, List.take_zero, List.headD_cons, List.length_cons, List.length_nil, List.getElem?_cons_zero, List.getElem?_cons_succ, List.set_cons_zero, List.set_cons_succ, List.map_cons, List.map_nil,
    Bool.not_true, Bool.not_false, Bool.false_eq_true, Bool.true_eq_false, Bool.not_eq_true', Bool.not_eq_false', eq_self, false_imp_iff, true_imp_iff, and_true, true_and, and_false, false_and, or_true, true_or, initFr, fr0_at, Qend, resL, resV1, pack,
    decide_eq_true_eq, decide_eq_false_iff_not, Int.toNat_natCast, Option.some.injEq, exists_eq_left', vcCond_T, vcCond_F]
      rw [encE_eta k]
      simp -implicitDefEqProofs only [vc_region, vc_quiet, vcD_nil, vcD_val, vcD_eff, vcD_guard, vcDOut, vcDEff, vcDGuard, saysAll, pendAll, pendNext, addPend, Says, vc_bad, vc_seq, vc_ret, vc_skip, vc_cond, vcCond, vc_block, vc_exit, vcGrps_nil, vcGrps_cons, vcGrps_guard, vcGuard, vcOps_nil, vcOps_cons, vcOut, KCall_ret, KCall_pan, skipF_nil, skipF_cons, Qseq_normal, Qseq_ret, Qseq_exit, Qseq_pan, Qblk_normal, Qblk_exit, Qblk_ret, Qblk_pan, Qpan_eq, Qcut_normal, Qcut_exit, Qcut_ret, Qcut_pan, Qloop_normal, Qloop_exit, Qloop_ret, Qloop_pan,
    stepOp, ev, upd_apply, putF, cellsOf, deref, faddrV, mk, abin, abinI, abinS, ibits, aeqb, aun, fldV, idxOf, elems, isPtr, putRef, splice, fillA, rowsA, minV, peqV, elemsA, rowBytes, strOf, Store.get_push, Store.get_set, Store.n_push, Store.n_set,
    Option.map_some, Option.map_none, reduceIte, Nat.reduceEqDiff, Nat.reduceAdd, Nat.reduceLeDiff, Nat.reduceLT, Nat.zero_add, Nat.add_zero, Nat.add_assoc, Nat.add_left_cancel_iff, Nat.left_eq_add, Nat.add_eq_left, Nat.lt_irrefl, Nat.le_refl,
    List.drop_zero, List.drop_succ_cons, List.take_succ_cons, List.take_zero, List.headD_cons, List.length_cons, List.length_nil, List.getElem?_cons_zero, List.getElem?_cons_succ, List.set_cons_zero, List.set_cons_succ, List.map_cons, List.map_nil,
    Bool.not_true, Bool.not_false, Bool.false_eq_true, Bool.true_eq_false, Bool.not_eq_true', Bool.not_eq_false', eq_self, false_imp_iff, true_imp_iff, and_true, true_and, and_false, false_and, or_true, true_or, initFr, fr0_at, Qend, resL, resV1, pack,
    decide_eq_true_eq, decide_eq_false_iff_not, Int.toNat_natCast, Option.some.injEq, exists_eq_left', vcCond_T, vcCond_F]
      refine hik.use ?_
      simp -implicitDefEqProofs only [f3, f6, f7, f8, hi1, vc_region, vc_quiet, vcD_nil, vcD_val, vcD_eff, vcD_guard, vcDOut, vcDEff, vcDGuard, saysAll, pendAll, pendNext, addPend, Says, vc_bad, vc_seq, vc_ret, vc_skip, vc_cond, vcCond, vc_block, vc_exit, vcGrps_nil, vcGrps_cons, vcGrps_guard, vcGuard, vcOps_nil, vcOps_cons, vcOut, KCall_ret, KCall_pan, skipF_nil, skipF_cons, Qseq_normal, Qseq_ret, Qseq_exit, Qseq_pan, Qblk_normal, Qblk_exit, Qblk_ret, Qblk_pan, Qpan_eq, Qcut_normal, Qcut_exit, Qcut_ret, Qcut_pan, Qloop_normal, Qloop_exit, Qloop_ret, Qloop_pan,
    stepOp, ev, upd_apply, putF, cellsOf, deref, faddrV, mk, abin, abinI, abinS, ibits, aeqb, aun, fldV, idxOf, elems, isPtr, putRef, splice, fillA, rowsA, minV, peqV, elemsA, rowBytes, strOf, Store.get_push, Store.get_set, Store.n_push, Store.n_set,
    Option.map_some, Option.map_none, reduceIte, Nat.reduceEqDiff, Nat.reduceAdd, Nat.reduceLeDiff, Nat.reduceLT, Nat.zero_add, Nat.add_zero, Nat.add_assoc, Nat.add_left_cancel_iff, Nat.left_eq_add, Nat.add_eq_left, Nat.lt_irrefl, Nat.le_refl,
    List.drop_zero, List.drop_succ_cons, List.take_succ_cons, List.take_zero, List.headD_cons, List.length_cons, List.length_nil, List.getElem?_cons_zero, List.getElem?_cons_succ, List.set_cons_zero, List.set_cons_succ, List.map_cons, List.map_nil,
    Bool.not_true, Bool.not_false, Bool.false_eq_true, Bool.true_eq_false, Bool.not_eq_true', Bool.not_eq_false', eq_self, false_imp_iff, true_imp_iff, and_true, true_and, and_false, false_and, or_true, true_or, initFr, fr0_at, Qend, resL, resV1, pack,
    decide_eq_true_eq, decide_eq_false_iff_not, Int.toNat_natCast, Option.some.injEq, exists_eq_left', vcCond_T, vcCond_F]
      subst hi0
      refine ⟨by omega, n - 1, by omega, 1, by omega, by simp, (((hE.push _).set _ _ hE.n).set _ _ hE.n).push _, .inr ⟨_, by have := hE.n; omega, by omega, rfl, ?_⟩⟩
      rw [if_pos rfl, take_succ hk]
      simp only [List.take_zero, List.nil_append, copyEs, encEs, ← hck, lstV]
    · have hru : ¬ r = U.n := by omega
      simp -implicitDefEqProofs only [f3, f6, f7, f8, hlt, hlt', h0, hat, hi1, hrow, encE_length, encE_take5, splice_encE, decide_true, vc_region, vc_quiet, vcD_nil, vcD_val, vcD_eff, vcD_guard, vcDOut, vcDEff, vcDGuard, saysAll, pendAll, pendNext, addPend, Says, vc_bad, vc_seq, vc_ret, vc_skip, vc_cond, vcCond, vc_block, vc_exit, vcGrps_nil, vcGrps_cons, vcGrps_guard, vcGuard, vcOps_nil, vcOps_cons, vcOut, KCall_ret, KCall_pan, skipF_nil, skipF_cons, Qseq_normal, Qseq_ret, Qseq_exit, Qseq_pan, Qblk_normal, Qblk_exit, Qblk_ret, Qblk_pan, Qpan_eq, Qcut_normal, Qcut_exit, Qcut_ret, Qcut_pan, Qloop_normal, Qloop_exit, Qloop_ret, Qloop_pan,
    stepOp, ev, upd_apply, putF, cellsOf, deref, faddrV, mk, abin, abinI, abinS, ibits, aeqb, aun, fldV, idxOf, elems, isPtr, putRef, splice, fillA, rowsA, minV, peqV, elemsA, rowBytes, strOf, Store.get_push, Store.get_set, Store.n_push, Store.n_set,
    Option.map_some, Option.map_none, reduceIte, Nat.reduceEqDiff, Nat.reduceAdd, Nat.reduceLeDiff, Nat.reduceLT, Nat.zero_add, Nat.add_zero, Nat.add_assoc, Nat.add_left_cancel_iff, Nat.left_eq_add, Nat.add_eq_left, Nat.lt_irrefl, Nat.le_refl,
    List.drop_zero, List.drop_succ_cons, List.take_succ_cons, List.take_zero, List.headD_cons, List.length_cons, List.length_nil, List.getElem?_cons_zero, List.getElem?_cons_succ, List.set_cons_zero, List.set_cons_succ, List.map_cons, List.map_nil,
    Bool.not_true, Bool.not_false, Bool.false_eq_true, Bool.true_eq_false, Bool.not_eq_true', Bool.not_eq_false', eq_self, false_imp_iff, true_imp_iff, and_true, true_and, and_false, false_and, or_true, true_or, initFr, fr0_at, Qend, resL, resV1, pack,
    decide_eq_true_eq, decide_eq_false_iff_not, Int.toNat_natCast, Option.some.injEq, exists_eq_left', vcCond_T, vcCond_F]
      rw [encE_eta k]
      simp -implicitDefEqProofs only [vc_region, vc_quiet, vcD_nil, vcD_val, vcD_eff, vcD_guard, vcDOut, vcDEff, vcDGuard, saysAll, pendAll, pendNext, addPend, Says, vc_bad, vc_seq, vc_ret, vc_skip, vc_cond, vcCond, vc_block, vc_exit, vcGrps_nil, vcGrps_cons, vcGrps_guard, vcGuard, vcOps_nil, vcOps_cons, vcOut, KCall_ret, KCall_pan, skipF_nil, skipF_cons, Qseq_normal, Qseq_ret, Qseq_exit, Qseq_pan, Qblk_normal, Qblk_exit, Qblk_ret, Qblk_pan, Qpan_eq, Qcut_normal, Qcut_exit, Qcut_ret, Qcut_pan, Qloop_normal, Qloop_exit, Qloop_ret, Qloop_pan,
    stepOp, ev, upd_apply, putF, cellsOf, deref, faddrV, mk, abin, abinI, abinS, ibits, aeqb, aun, fldV, idxOf, elems, isPtr, putRef, splice, fillA, rowsA, minV, peqV, elemsA, rowBytes, strOf, Store.get_push, Store.get_set, Store.n_push, Store.n_set,
    Option.map_some, Option.map_none, reduceIte, Nat.reduceEqDiff, Nat.reduceAdd, Nat.reduceLeDiff, Nat.reduceLT, Nat.zero_add, Nat.add_zero, Nat.add_assoc, Nat.add_left_cancel_iff, Nat.left_eq_add, Nat.add_eq_left, Nat.lt_irrefl, Nat.le_refl,
    List.drop_zero, List.drop_succ_cons, List.take_succ_cons, List.take_zero, List.headD_cons, List.length_cons, List.length_nil, List.getElem?_cons_zero, List.getElem?_cons_succ, List.set_cons_zero, List.set_cons_succ, List.map_cons, List.map_nil,
    Bool.not_true, Bool.not_false, Bool.false_eq_true, Bool.true_eq_false, Bool.not_eq_true', Bool.not_eq_false', eq_self, false_imp_iff, true_imp_iff, and_true, true_and, and_false, false_and, or_true, true_or, initFr, fr0_at, Qend, resL, resV1, pack,
    decide_eq_true_eq, decide_eq_false_iff_not, Int.toNat_natCast, Option.some.injEq, exists_eq_left', vcCond_T, vcCond_F]
      refine hik.use ?_
      have hlen : (encEs (copyEs (e.kids.take i))).length = i := by rw [encEs_length, copyEs_length, List.length_take]; omega
      simp -implicitDefEqProofs only [f3, f6, f7, f8, hi1, hru, hrow, hlen, vc_region, vc_quiet, vcD_nil, vcD_val, vcD_eff, vcD_guard, vcDOut, vcDEff, vcDGuard, saysAll, pendAll, pendNext, addPend, Says, vc_bad, vc_seq, vc_ret, vc_skip, vc_cond, vcCond, vc_block, vc_exit, vcGrps_nil, vcGrps_cons, vcGrps_guard, vcGuard, vcOps_nil, vcOps_cons, vcOut, KCall_ret, KCall_pan, skipF_nil, skipF_cons, Qseq_normal, Qseq_ret, Qseq_exit, Qseq_pan, Qblk_normal, Qblk_exit, Qblk_ret, Qblk_pan, Qpan_eq, Qcut_normal, Qcut_exit, Qcut_ret, Qcut_pan, Qloop_normal, Qloop_exit, Qloop_ret, Qloop_pan,
    stepOp, ev, upd_apply, putF, cellsOf, deref, faddrV, mk, abin, abinI, abinS, ibits, aeqb, aun, fldV, idxOf, elems, isPtr, putRef, splice, fillA, rowsA, minV, peqV, elemsA, rowBytes, strOf, Store.get_push, Store.get_set, Store.n_push, Store.n_set,
    Option.map_some, Option.map_none, reduceIte, Nat.reduceEqDiff, Nat.reduceAdd, Nat.reduceLeDiff, Nat.reduceLT, Nat.zero_add, Nat.add_zero, Nat.add_assoc, Nat.add_left_cancel_iff, Nat.left_eq_add, Nat.add_eq_left, Nat.lt_irrefl, Nat.le_refl,
    List.drop_zero, List.drop_succ_cons, List.take_succ_cons, List.take_zero, List.headD_cons, List.length_cons, List.length_nil, List.getElem?_cons_zero, List.getElem?_cons_succ, List.set_cons_zero, List.set_cons_succ, List.map_cons, List.map_nil,
    Bool.not_true, Bool.not_false, Bool.false_eq_true, Bool.true_eq_false, Bool.not_eq_true', Bool.not_eq_false', eq_self, false_imp_iff, true_imp_iff, and_true, true_and, and_false, false_and, or_true, true_or, initFr, fr0_at, Qend, resL, resV1, pack,
    decide_eq_true_eq, decide_eq_false_iff_not, Int.toNat_natCast, Option.some.injEq, exists_eq_left', vcCond_T, vcCond_F]
      refine ⟨by omega, n - 1, by omega, i + 1, by omega, by simp, ((((hE.push _).set _ _ hE.n).set _ _ hE.n).set _ _ hr1).push _, .inr ⟨_, by have := hE.n; omega, by omega, rfl, ?_⟩⟩
      rw [if_pos rfl, take_succ hk, copyEs_app, encEs_app]
      simp only [encEs, ← hck, lstV]
  · have hlt' : ¬ (i : Int) < e.kids.length := by omega
    have hi : i = e.kids.length := by omega
    have hne : e.kids.length ≠ 0 := fun h => h0 (List.eq_nil_of_length_eq_zero h)
    rcases hrow with ⟨hi0, f3⟩ | ⟨r, hr1, hr2, f3, hrow⟩
    · omega
    · simp -implicitDefEqProofs only [f3, f6, f7, f8, hlt', decide_false, vc_region, vc_quiet, vcD_nil, vcD_val, vcD_eff, vcD_guard, vcDOut, vcDEff, vcDGuard, saysAll, pendAll, pendNext, addPend, Says, vc_bad, vc_seq, vc_ret, vc_skip, vc_cond, vcCond, vc_block, vc_exit, vcGrps_nil, vcGrps_cons, vcGrps_guard, vcGuard, vcOps_nil, vcOps_cons, vcOut, KCall_ret, KCall_pan, skipF_nil, skipF_cons, Qseq_normal, Qseq_ret, Qseq_exit, Qseq_pan, Qblk_normal, Qblk_exit, Qblk_ret, Qblk_pan, Qpan_eq, Qcut_normal, Qcut_exit, Qcut_ret, Qcut_pan, Qloop_normal, Qloop_exit, Qloop_ret, Qloop_pan,
    stepOp, ev, upd_apply, putF, cellsOf, deref, faddrV, mk, abin, abinI, abinS, ibits, aeqb, aun, fldV, idxOf, elems, isPtr, putRef, splice, fillA, rowsA, minV, peqV, elemsA, rowBytes, strOf, Store.get_push, Store.get_set, Store.n_push, Store.n_set,
    Option.map_some, Option.map_none, reduceIte, Nat.reduceEqDiff, Nat.reduceAdd, Nat.reduceLeDiff, Nat.reduceLT, Nat.zero_add, Nat.add_zero, Nat.add_assoc, Nat.add_left_cancel_iff, Nat.left_eq_add, Nat.add_eq_left, Nat.lt_irrefl, Nat.le_refl,
    List.drop_zero, List.drop_succ_cons, List.take_succ_cons, List.take_zero, List.headD_cons, List.length_cons, List.length_nil, List.getElem?_cons_zero, List.getElem?_cons_succ, List.set_cons_zero, List.set_cons_succ, List.map_cons, List.map_nil,
    Bool.not_true, Bool.not_false, Bool.false_eq_true, Bool.true_eq_false, Bool.not_eq_true', Bool.not_eq_false', eq_self, false_imp_iff, true_imp_iff, and_true, true_and, and_false, false_and, or_true, true_or, initFr, fr0_at, Qend, resL, resV1, pack,
    decide_eq_true_eq, decide_eq_false_iff_not, Int.toNat_natCast, Option.some.injEq, exists_eq_left', vcCond_T, vcCond_F]
      rw [hi, List.take_length] at hrow
      exact ⟨r, hr1, by rw [hi], hrow, hE⟩

theorem c54 (ks : List Elem) (ext : List (List AV)) (hb : ks.length * 64 ≤ maxB) (hks : ∀ k ∈ ks, okE k) : Pure prog 54 [lstV ks ext] (lstV (copyEs ks) []) := by
  refine c54e (.mk 0 0 false [] ks ext) ?_
  simp only [okE]
  exact ⟨⟨by omega, by omega⟩, ⟨by omega, by omega⟩, by simp, hb, okEs_of ks hks⟩

/-! ## Elements that are made -/
def seqE (ks : List Elem) : Elem := .mk 0 16 true [] ks []
theorem c23 (ks : List Elem) (ext : List (List AV)) (hb : ks.length * 64 ≤ maxB) (hks : ∀ k ∈ ks, okE k) : Pure prog 23 [lstV ks ext] (.agg (encE (seqE (copyEs ks)))) := by
  refine Pure.of (fun n _ => by simp only [nm, seqE, encE, nmL, and_true, true_and, List.append_nil]; exact nm_copys ks n) fun S => acalls_of_vc low23 (by simp) ?_
  have hx := (Ext.refl S).push
  simp -implicitDefEqProofs only [B23, vc_region, vc_quiet, vcD_nil, vcD_val, vcD_eff, vcD_guard, vcDOut, vcDEff, vcDGuard, saysAll, pendAll, pendNext, addPend, Says, vc_bad, vc_seq, vc_ret, vc_skip, vc_cond, vcCond, vc_block, vc_exit, vcGrps_nil, vcGrps_cons, vcGrps_guard, vcGuard, vcOps_nil, vcOps_cons, vcOut, KCall_ret, KCall_pan, skipF_nil, skipF_cons, Qseq_normal, Qseq_ret, Qseq_exit, Qseq_pan, Qblk_normal, Qblk_exit, Qblk_ret, Qblk_pan, Qpan_eq, Qcut_normal, Qcut_exit, Qcut_ret, Qcut_pan, Qloop_normal, Qloop_exit, Qloop_ret, Qloop_pan,
    stepOp, ev, upd_apply, putF, cellsOf, deref, faddrV, mk, abin, abinI, abinS, ibits, aeqb, aun, fldV, idxOf, elems, isPtr, putRef, splice, fillA, rowsA, minV, peqV, elemsA, rowBytes, strOf, Store.get_push, Store.get_set, Store.n_push, Store.n_set,
    Option.map_some, Option.map_none, reduceIte, Nat.reduceEqDiff, Nat.reduceAdd, Nat.reduceLeDiff, Nat.reduceLT, Nat.zero_add, Nat.add_zero, Nat.add_assoc, Nat.add_left_cancel_iff, Nat.left_eq_add, Nat.add_eq_left, Nat.lt_irrefl, Nat.le_refl,
    List.drop_zero, List.drop_succ_cons, List.take_succ_cons, List.take_zero, List.headD_cons, List.length_cons, List.length_nil, List.getElem?_cons_zero, List.getElem?_cons_succ, List.set_cons_zero, List.set_cons_succ, List.map_cons, List.map_nil,
    Bool.not_true, Bool.not_false, Bool.false_eq_true, Bool.true_eq_false, Bool.not_eq_true', Bool.not_eq_false', eq_self, false_imp_iff, true_imp_iff, and_true, true_and, and_false, false_and, or_true, true_or, initFr, fr0_at, Qend, resL, resV1, pack,
    decide_eq_true_eq, decide_eq_false_iff_not, Int.toNat_natCast, Option.some.injEq, exists_eq_left', vcCond_T, vcCond_F]
  refine (c54 ks ext hb hks).use ?_
  unfold lstV
  simp -implicitDefEqProofs only [vc_region, vc_quiet, vcD_nil, vcD_val, vcD_eff, vcD_guard, vcDOut, vcDEff, vcDGuard, saysAll, pendAll, pendNext, addPend, Says, vc_bad, vc_seq, vc_ret, vc_skip, vc_cond, vcCond, vc_block, vc_exit, vcGrps_nil, vcGrps_cons, vcGrps_guard, vcGuard, vcOps_nil, vcOps_cons, vcOut, KCall_ret, KCall_pan, skipF_nil, skipF_cons, Qseq_normal, Qseq_ret, Qseq_exit, Qseq_pan, Qblk_normal, Qblk_exit, Qblk_ret, Qblk_pan, Qpan_eq, Qcut_normal, Qcut_exit, Qcut_ret, Qcut_pan, Qloop_normal, Qloop_exit, Qloop_ret, Qloop_pan,
    stepOp, ev, upd_apply, putF, cellsOf, deref, faddrV, mk, abin, abinI, abinS, ibits, aeqb, aun, fldV, idxOf, elems, isPtr, putRef, splice, fillA, rowsA, minV, peqV, elemsA, rowBytes, strOf, Store.get_push, Store.get_set, Store.n_push, Store.n_set,
    Option.map_some, Option.map_none, reduceIte, Nat.reduceEqDiff, Nat.reduceAdd, Nat.reduceLeDiff, Nat.reduceLT, Nat.zero_add, Nat.add_zero, Nat.add_assoc, Nat.add_left_cancel_iff, Nat.left_eq_add, Nat.add_eq_left, Nat.lt_irrefl, Nat.le_refl,
    List.drop_zero, List.drop_succ_cons, List.take_succ_cons, List.take_zero, List.headD_cons, List.length_cons, List.length_nil, List.getElem?_cons_zero, List.getElem?_cons_succ, List.set_cons_zero, List.set_cons_succ, List.map_cons, List.map_nil,
    Bool.not_true, Bool.not_false, Bool.false_eq_true, Bool.true_eq_false, Bool.not_eq_true', Bool.not_eq_false', eq_self, false_imp_iff, true_imp_iff, and_true, true_and, and_false, false_and, or_true, true_or, initFr, fr0_at, Qend, resL, resV1, pack,
    decide_eq_true_eq, decide_eq_false_iff_not, Int.toNat_natCast, Option.some.injEq, exists_eq_left', vcCond_T, vcCond_F]
  exact ⟨rfl, (hx _).set _ _ (Nat.le_refl _)⟩
theorem c20 (tag v : Int) (hv : i64ok v) : Pure prog 20 [.int .i64 tag, .int .i64 v] (.agg (encE (strE tag (sgn v)))) := by
  refine Pure.of (fun n _ => by simp only [nm, strE, encE, nmL, and_true, true_and, List.append_nil, encEs, nmLL]) fun S => acalls_of_vc low20 (by simp) ?_
  have hx := (Ext.refl S).push
  simp -implicitDefEqProofs only [B20, vc_region, vc_quiet, vcD_nil, vcD_val, vcD_eff, vcD_guard, vcDOut, vcDEff, vcDGuard, saysAll, pendAll, pendNext, addPend, Says, vc_bad, vc_seq, vc_ret, vc_skip, vc_cond, vcCond, vc_block, vc_exit, vcGrps_nil, vcGrps_cons, vcGrps_guard, vcGuard, vcOps_nil, vcOps_cons, vcOut, KCall_ret, KCall_pan, skipF_nil, skipF_cons, Qseq_normal, Qseq_ret, Qseq_exit, Qseq_pan, Qblk_normal, Qblk_exit, Qblk_ret, Qblk_pan, Qpan_eq, Qcut_normal, Qcut_exit, Qcut_ret, Qcut_pan, Qloop_normal, Qloop_exit, Qloop_ret, Qloop_pan,
    stepOp, ev, upd_apply, putF, cellsOf, deref, faddrV, mk, abin, abinI, abinS, ibits, aeqb, aun, fldV, idxOf, elems, isPtr, putRef, splice, fillA, rowsA, minV, peqV, elemsA, rowBytes, strOf, Store.get_push, Store.get_set, Store.n_push, Store.n_set,
    Option.map_some, Option.map_none, reduceIte, Nat.reduceEqDiff, Nat.reduceAdd, Nat.reduceLeDiff, Nat.reduceLT, Nat.zero_add, Nat.add_zero, Nat.add_assoc, Nat.add_left_cancel_iff, Nat.left_eq_add, Nat.add_eq_left, Nat.lt_irrefl, Nat.le_refl,
    List.drop_zero, List.drop_succ_cons, List.take_succ_cons, List.take_zero, List.headD_cons, List.length_cons, List.length_nil, List.getElem?_cons_zero, List.getElem?_cons_succ, List.set_cons_zero, List.set_cons_succ, List.map_cons, List.map_nil,
    Bool.not_true, Bool.not_false, Bool.false_eq_true, Bool.true_eq_false, Bool.not_eq_true', Bool.not_eq_false', eq_self, false_imp_iff, true_imp_iff, and_true, true_and, and_false, false_and, or_true, true_or, initFr, fr0_at, Qend, resL, resV1, pack,
    decide_eq_true_eq, decide_eq_false_iff_not, Int.toNat_natCast, Option.some.injEq, exists_eq_left', vcCond_T, vcCond_F]
  refine (c53 v hv).use ?_
  simp -implicitDefEqProofs only [vc_region, vc_quiet, vcD_nil, vcD_val, vcD_eff, vcD_guard, vcDOut, vcDEff, vcDGuard, saysAll, pendAll, pendNext, addPend, Says, vc_bad, vc_seq, vc_ret, vc_skip, vc_cond, vcCond, vc_block, vc_exit, vcGrps_nil, vcGrps_cons, vcGrps_guard, vcGuard, vcOps_nil, vcOps_cons, vcOut, KCall_ret, KCall_pan, skipF_nil, skipF_cons, Qseq_normal, Qseq_ret, Qseq_exit, Qseq_pan, Qblk_normal, Qblk_exit, Qblk_ret, Qblk_pan, Qpan_eq, Qcut_normal, Qcut_exit, Qcut_ret, Qcut_pan, Qloop_normal, Qloop_exit, Qloop_ret, Qloop_pan,
    stepOp, ev, upd_apply, putF, cellsOf, deref, faddrV, mk, abin, abinI, abinS, ibits, aeqb, aun, fldV, idxOf, elems, isPtr, putRef, splice, fillA, rowsA, minV, peqV, elemsA, rowBytes, strOf, Store.get_push, Store.get_set, Store.n_push, Store.n_set,
    Option.map_some, Option.map_none, reduceIte, Nat.reduceEqDiff, Nat.reduceAdd, Nat.reduceLeDiff, Nat.reduceLT, Nat.zero_add, Nat.add_zero, Nat.add_assoc, Nat.add_left_cancel_iff, Nat.left_eq_add, Nat.add_eq_left, Nat.lt_irrefl, Nat.le_refl,
    List.drop_zero, List.drop_succ_cons, List.take_succ_cons, List.take_zero, List.headD_cons, List.length_cons, List.length_nil, List.getElem?_cons_zero, List.getElem?_cons_succ, List.set_cons_zero, List.set_cons_succ, List.map_cons, List.map_nil,
    Bool.not_true, Bool.not_false, Bool.false_eq_true, Bool.true_eq_false, Bool.not_eq_true', Bool.not_eq_false', eq_self, false_imp_iff, true_imp_iff, and_true, true_and, and_false, false_and, or_true, true_or, initFr, fr0_at, Qend, resL, resV1, pack,
    decide_eq_true_eq, decide_eq_false_iff_not, Int.toNat_natCast, Option.some.injEq, exists_eq_left', vcCond_T, vcCond_F]
  refine (c21 tag (sgn v)).use ?_
  rw [encE_strE]
  simp -implicitDefEqProofs only [vc_region, vc_quiet, vcD_nil, vcD_val, vcD_eff, vcD_guard, vcDOut, vcDEff, vcDGuard, saysAll, pendAll, pendNext, addPend, Says, vc_bad, vc_seq, vc_ret, vc_skip, vc_cond, vcCond, vc_block, vc_exit, vcGrps_nil, vcGrps_cons, vcGrps_guard, vcGuard, vcOps_nil, vcOps_cons, vcOut, KCall_ret, KCall_pan, skipF_nil, skipF_cons, Qseq_normal, Qseq_ret, Qseq_exit, Qseq_pan, Qblk_normal, Qblk_exit, Qblk_ret, Qblk_pan, Qpan_eq, Qcut_normal, Qcut_exit, Qcut_ret, Qcut_pan, Qloop_normal, Qloop_exit, Qloop_ret, Qloop_pan,
    stepOp, ev, upd_apply, putF, cellsOf, deref, faddrV, mk, abin, abinI, abinS, ibits, aeqb, aun, fldV, idxOf, elems, isPtr, putRef, splice, fillA, rowsA, minV, peqV, elemsA, rowBytes, strOf, Store.get_push, Store.get_set, Store.n_push, Store.n_set,
    Option.map_some, Option.map_none, reduceIte, Nat.reduceEqDiff, Nat.reduceAdd, Nat.reduceLeDiff, Nat.reduceLT, Nat.zero_add, Nat.add_zero, Nat.add_assoc, Nat.add_left_cancel_iff, Nat.left_eq_add, Nat.add_eq_left, Nat.lt_irrefl, Nat.le_refl,
    List.drop_zero, List.drop_succ_cons, List.take_succ_cons, List.take_zero, List.headD_cons, List.length_cons, List.length_nil, List.getElem?_cons_zero, List.getElem?_cons_succ, List.set_cons_zero, List.set_cons_succ, List.map_cons, List.map_nil,
    Bool.not_true, Bool.not_false, Bool.false_eq_true, Bool.true_eq_false, Bool.not_eq_true', Bool.not_eq_false', eq_self, false_imp_iff, true_imp_iff, and_true, true_and, and_false, false_and, or_true, true_or, initFr, fr0_at, Qend, resL, resV1, pack,
    decide_eq_true_eq, decide_eq_false_iff_not, Int.toNat_natCast, Option.some.injEq, exists_eq_left', vcCond_T, vcCond_F]
  exact (hx _).set _ _ (Nat.le_refl _)
end Go.Proofs.Ytmlllckecalaaaa.Eng

namespace Go.Proofs.Ytmlllckecalaaaa.Eng
open Go

/-! ## Conditions that are known: the dead arm is not walked -/
section
variable (P : Program) (Q : Qx) (fr : Fr) (S : Store) (a b : LCode)
def vcC2 (x : AV) : Prop := vcCond P Q fr S a b x
def vcCB (t : Bool) : Prop := vcCond P Q fr S a b (.bool t)
theorem vc_cond2 (c : LX) : vc P (.cond c a b) Q fr S = vcC2 P Q fr S a b (ev fr c) := vc_cond ..
theorem vcC2_bool (t : Bool) : vcC2 P Q fr S a b (.bool t) = vcCB P Q fr S a b t := rfl
theorem vcCB_T : vcCB P Q fr S a b true = vc P a Q fr S := vcCond_T
theorem vcCB_F : vcCB P Q fr S a b false = vc P b Q fr S := vcCond_F
theorem vcCB_dec (p : Prop) [Decidable p] : vcCB P Q fr S a b (decide p) = ((p → vc P a Q fr S) ∧ (¬ p → vc P b Q fr S)) := by
  by_cases h : p <;> simp [vcCB, h, vcCond]
theorem vcCB_by (t : Bool) (h : (t = true → vc P a Q fr S) ∧ (t = false → vc P b Q fr S)) : vcCB P Q fr S a b t := h
end
section
variable (P : Program) (K : Fr → Store → Prop) (E : AV → Fr → Store → Prop) (g : Nat) (ops : List (Option Nat × LOp)) (rest : List LGrp) (fr : Fr) (S : Store)
def vcG2 (want : Bool) (x : AV) : Prop := vcGuard P K E g want ops rest fr S x
def vcGB (want t : Bool) : Prop := vcGuard P K E g want ops rest fr S (.bool t)
theorem vcGrps_guard2 (want : Bool) : vcGrps P K E (⟨some (g, want), ops⟩ :: rest) fr S = vcG2 P K E g ops rest fr S want (fr g) := vcGrps_guard ..
theorem vcG2_bool (want t : Bool) : vcG2 P K E g ops rest fr S want (.bool t) = vcGB P K E g ops rest fr S want t := rfl
theorem vcG2_und (want : Bool) : vcG2 P K E g ops rest fr S want .und = vcGrps P K E rest (skipF fr ops) S := rfl
theorem vcGB_TT : vcGB P K E g ops rest fr S true true = vcOps P (vcGrps P K E rest) E ops (upd fr g (.bool true)) S := by simp [vcGB, vcGuard]
theorem vcGB_FF : vcGB P K E g ops rest fr S false false = vcOps P (vcGrps P K E rest) E ops (upd fr g (.bool false)) S := by simp [vcGB, vcGuard]
theorem vcGB_TF : vcGB P K E g ops rest fr S true false = vcGrps P K E rest (skipF (upd fr g (.bool false)) ops) S := by simp [vcGB, vcGuard]
theorem vcGB_FT : vcGB P K E g ops rest fr S false true = vcGrps P K E rest (skipF (upd fr g (.bool true)) ops) S := by simp [vcGB, vcGuard]
theorem vcGB_Tdec (p : Prop) [Decidable p] : vcGB P K E g ops rest fr S true (decide p) = ((p → vcOps P (vcGrps P K E rest) E ops (upd fr g (.bool true)) S) ∧ (¬ p → vcGrps P K E rest (skipF (upd fr g (.bool false)) ops) S)) := by
  by_cases h : p <;> simp [vcGB, h, vcGuard]
theorem vcGB_Fdec (p : Prop) [Decidable p] : vcGB P K E g ops rest fr S false (decide p) = ((p → vcGrps P K E rest (skipF (upd fr g (.bool true)) ops) S) ∧ (¬ p → vcOps P (vcGrps P K E rest) E ops (upd fr g (.bool false)) S)) := by
  by_cases h : p <;> simp [vcGB, h, vcGuard]
end

section
variable (P : Program) (K : Fr → Store → Prop) (dst : Option Nat) (op : LOp) (b f : Nat) (rest : List DOp) (fr : Fr) (S : Store) (olds : List Store) (pend : List Pend)
def vcDO (o : Option Out) : Prop := vcDOut P fr S olds op b (fun v => vcD P K rest (putF fr dst v) S olds (addPend fr op v f pend)) o
theorem vcD_val2 : vcD P K (⟨dst, none, op, false, b, f⟩ :: rest) fr S olds pend = vcDO P K dst op b f rest fr S olds pend (stepOp P fr S op) := vcD_val ..
theorem vcDO_val (v : AV) : vcDO P K dst op b f rest fr S olds pend (some (.val v)) = (saysAll P fr op v b olds ∧ vcD P K rest (putF fr dst v) S olds (addPend fr op v f pend)) := rfl
theorem vcDO_asks (p g : Prop) (v : AV) (S' : Store) : vcDO P K dst op b f rest fr S olds pend (some (.asks p g v S')) = (p ∧ S' = S ∧ saysAll P fr op v b olds ∧ vcD P K rest (putF fr dst v) S olds (addPend fr op v f pend)) := rfl
theorem vcDO_call (fn : FuncId) (args : List AV) : vcDO P K dst op b f rest fr S olds pend (some (.call fn args)) = (∃ v, Pure P fn args v ∧ saysAll P fr op v b olds ∧ vcD P K rest (putF fr dst v) S olds (addPend fr op v f pend)) := rfl
theorem vcDO_by {fn : FuncId} {args : List AV} {v : AV} (h : Pure P fn args v) (k : saysAll P fr op v b olds ∧ vcD P K rest (putF fr dst v) S olds (addPend fr op v f pend)) : vcDO P K dst op b f rest fr S olds pend (some (.call fn args)) := ⟨v, h, k⟩
def vcDG (g : Nat) (want : Bool) (x : AV) : Prop := vcDGuard want
      (vcDOut P (upd fr g (.bool want)) S olds op b (fun v => vcD P K rest (putF (upd fr g (.bool want)) dst v) S olds (addPend (upd fr g (.bool want)) op v f pend)) (stepOp P (upd fr g (.bool want)) S op))
      (vcD P K rest (putF (upd fr g (.bool (!want))) dst .und) S olds pend)
      (vcD P K rest (putF fr dst .und) S olds pend) x
theorem vcD_guard2 (g : Nat) (want : Bool) : vcD P K (⟨dst, some (g, want), op, false, b, f⟩ :: rest) fr S olds pend = vcDG P K dst op b f rest fr S olds pend g want (fr g) := vcD_guard ..
theorem vcDG_TT (g : Nat) : vcDG P K dst op b f rest fr S olds pend g true (.bool true) = vcDO P K dst op b f rest (upd fr g (.bool true)) S olds pend (stepOp P (upd fr g (.bool true)) S op) := by simp [vcDG, vcDGuard, vcDO]
theorem vcDG_FF (g : Nat) : vcDG P K dst op b f rest fr S olds pend g false (.bool false) = vcDO P K dst op b f rest (upd fr g (.bool false)) S olds pend (stepOp P (upd fr g (.bool false)) S op) := by simp [vcDG, vcDGuard, vcDO]
theorem vcDG_TF (g : Nat) : vcDG P K dst op b f rest fr S olds pend g true (.bool false) = vcD P K rest (putF (upd fr g (.bool false)) dst .und) S olds pend := by simp [vcDG, vcDGuard]
theorem vcDG_FT (g : Nat) : vcDG P K dst op b f rest fr S olds pend g false (.bool true) = vcD P K rest (putF (upd fr g (.bool true)) dst .und) S olds pend := by simp [vcDG, vcDGuard]
theorem vcDG_und (g : Nat) (want : Bool) : vcDG P K dst op b f rest fr S olds pend g want .und = vcD P K rest (putF fr dst .und) S olds pend := by simp [vcDG, vcDGuard]
theorem vcDG_Tdec (g : Nat) (p : Prop) [Decidable p] : vcDG P K dst op b f rest fr S olds pend g true (.bool (decide p)) = ((p → vcDO P K dst op b f rest (upd fr g (.bool true)) S olds pend (stepOp P (upd fr g (.bool true)) S op)) ∧ (¬ p → vcD P K rest (putF (upd fr g (.bool false)) dst .und) S olds pend)) := by
  by_cases h : p <;> simp [vcDG, vcDGuard, vcDO, h]
theorem vcDG_Fdec (g : Nat) (p : Prop) [Decidable p] : vcDG P K dst op b f rest fr S olds pend g false (.bool (decide p)) = ((p → vcD P K rest (putF (upd fr g (.bool true)) dst .und) S olds pend) ∧ (¬ p → vcDO P K dst op b f rest (upd fr g (.bool false)) S olds pend (stepOp P (upd fr g (.bool false)) S op))) := by
  by_cases h : p <;> simp [vcDG, vcDGuard, vcDO, h]
end
end Go.Proofs.Ytmlllckecalaaaa.Eng

namespace Go.Proofs.Ytmlllckecalaaaa.Eng
open Go

/-! ## A call that is put off, and takes a panic up -/
def RepM (μ : Mu) (M : Nat → Prop) (w : World) : Option AV → FrameMode → Prop
  | none, .returning => True
  | some v, .panicking ch => ∃ x, ch = [{ v := x, recovered := false }] ∧ Rep μ M w v x
  | _, _ => False
def ADef (P : Program) (g : FuncId) (args : List AV) (S : Store) (m : Option AV) (K : Store → Prop) : Prop :=
  ∀ μ w vs u, Repr μ S w → RepVals μ (Mut μ S) w args vs → RepM μ (Mut μ S) w m u →
    CallsD P g vs.toArray u w fun e u' w' => (∃ v, e = .returned v) ∧ settle u' = .returning ∧ ∃ μ' S', K S' ∧ Repr μ' S' w' ∧ Keeps μ (Mut μ S) w μ' (Mut μ' S') w'
def mV : Option AV → AV
  | none => .lit .nilIface
  | some v => v
def QDef (K : Store → Prop) : Qx := fun e fr S => match e with
  | .normal | .ret => K S
  | _ => False
section
variable {P : Program}

theorem ADef.mono {g args S m} {K K' : Store → Prop} (h : ADef P g args S m K) (hk : ∀ S, K S → K' S) : ADef P g args S m K' := fun μ w vs u h1 h2 h3 =>
  (h μ w vs u h1 h2 h3).mono fun e u' w' ⟨a1, a2, μ', S', a3, a4⟩ => ⟨a1, a2, μ', S', hk _ a3, a4⟩

theorem initFr_rep {μ M w} {args : List AV} {vs : List Value} (hv : RepVals μ M w args vs) (n : Nat) : FrRep μ M w (initFr args 0 fr0) { tmps := vs.toArray ++ Array.replicate (n - vs.toArray.size) undef, defers := [] } := by
  intro t
  rw [initFr_at, if_neg (by omega), Nat.sub_zero]
  have hlen := hv.length
  simp only [Array.getD_eq_getD_getElem?]
  cases hx : args[t]? with
  | some x =>
    obtain ⟨y, hy, hry⟩ := hv.at t x hx
    have : t < vs.length := get_lt hy
    have e : (vs.toArray ++ Array.replicate (n - vs.toArray.size) undef)[t]? = some y := by
      rw [Array.getElem?_append_left (by simpa using this)]
      simpa using hy
    rw [e]
    exact hry
  | none =>
    have h1 : args.length ≤ t := List.getElem?_eq_none_iff.1 hx
    have e : (vs.toArray ++ Array.replicate (n - vs.toArray.size) undef)[t]?.getD undef = undef := by
      rw [Array.getElem?_append_right (by simp; omega)]
      rw [Array.getElem?_replicate]
      split <;> rfl
    rw [e]
    simp only [fr0, Rep]

theorem adef_of_vc {g : FuncId} {fn : Func} {id : Nat} {o0 o1 : Oper} {c1 : Code} {lc : LCode} {d0 d1 : Nat} {args : List AV} {S : Store} {m : Option AV} {K : Store → Prop}
    (hf : P.funcs[g]? = some fn) (hb : fn.body = some (.seq (.region id #[o0, o1] false) c1)) (h0 : o0.op = .call { callee := .builtin .recover, args := #[], argTypes := #[] }) (g0 : o0.guard = none) (e0 : o0.dst = some d0)
    (h1 : o1.op = .assign (.tmp d0)) (g1 : o1.guard = none) (e1 : o1.dst = some d1) (l0 : d0 < fn.ntmps) (l1 : d1 < fn.ntmps) (hl : lowerC P fn.ntmps c1 = some lc) (hres : fn.results = #[]) (hle : args.length ≤ fn.ntmps)
    (h : vc P lc (QDef K) (upd (upd (initFr args 0 fr0) d0 (mV m)) d1 (mV m)) S) : ADef P g args S m K := by
  intro μ w vs u hr hv hm
  refine callsD_of_wpS hf hb fun c₀ cs hu => ?_
  have hlen := hv.length
  have hf0 := initFr_rep hv fn.ntmps
  have hmV : ∃ x, Rep μ (Mut μ S) w (mV m) x ∧ ∃ u1, settle u1 = .returning ∧ ((recoverD (c₀ :: cs) = none ∧ x = .nilIface ∧ u1 = c₀.mode) ∨ recoverD (c₀ :: cs) = some (x, { c₀ with mode := u1 } :: cs)) := by
    match m, u, hm with
    | none, .returning, _ => exact ⟨.nilIface, by simp [mV, Rep, one], .returning, rfl, .inl ⟨by simp [recoverD, hu], rfl, hu.symm⟩⟩
    | some v, .panicking ch, hm =>
      obtain ⟨x, rfl, hx⟩ := hm
      exact ⟨x, hx, .panicking [{ v := x, recovered := true }], rfl, .inr (by simp [recoverD, hu])⟩
  obtain ⟨x, hx, u1, hset, hrec⟩ := hmV
  have st : ∀ (a : Act) (fr : Fr), a.defers = [] → a.tmps.size = fn.ntmps → FrRep μ (Mut μ S) w fr a → (upd (upd (initFr args 0 fr0) d0 (mV m)) d1 (mV m)) = fr →
      c1.wpS P (bodyPostS P fn c₀ cs fun e u' w' => (∃ v, e = .returned v) ∧ settle u' = .returning ∧ ∃ μ' S', K S' ∧ Repr μ' S' w' ∧ Keeps μ (Mut μ S) w μ' (Mut μ' S') w') a ({ c₀ with mode := u1 } :: cs) w := by
    intro a fr hd hn hfr e
    subst e
    refine wpS_of_wp (wp_mono (vc_sound (n := fn.ntmps) (ds := []) c1 lc _ _ S μ w a hl h ⟨hr, hfr, hn, hd⟩) fun e a' w' ⟨μ', S', fr', z, b1, b2, b3, b4⟩ => ?_)
    have hrun : (results fn a'.tmps).run P w' = .ok (.tuple #[]) w' := by
      unfold results; rw [hres]; simp
    cases z with
    | normal =>
      cases e <;> first | exact b4.elim | skip
      exact ⟨b2.defers, u1, rfl, _, hrun, ⟨_, rfl⟩, hset, μ', S', b1, b2.repr, b3⟩
    | ret =>
      cases e <;> first | exact b4.elim | skip
      exact ⟨b2.defers, u1, rfl, _, hrun, ⟨_, rfl⟩, hset, μ', S', b1, b2.repr, b3⟩
    | pan v => exact b1.elim
    | exit i => exact b1.elim
  refine wpS_seq (wpS_region ?_)
  have hrange : List.range (#[o0, o1] : Array Oper).size = [0, 1] := rfl
  rw [hrange]
  have hrun0 : ∀ (ρ : Operand → Value), (execOp ρ o0).run P w = .ok .recover w := fun ρ => by simp [execOp, h0, resolve, invoke, builtin]
  have hw0 : ∀ y, Region.wanted o0 y = true := fun y => by simp [Region.wanted, g0]
  have hw1 : ∀ y, Region.wanted o1 y = true := fun y => by simp [Region.wanted, g1]
  have i0 : (#[o0, o1] : Array Oper)[0]? = some o0 := rfl
  have i1 : (#[o0, o1] : Array Oper)[1]? = some o1 := rfl
  have second : ∀ (a : Act), a.defers = [] → a.tmps.size = fn.ntmps → FrRep μ (Mut μ S) w (upd (initFr args 0 fr0) d0 (mV m)) a →
      wpOpsS P #[o0, o1] (Exit.thenS (c1.wpS P (bodyPostS P fn c₀ cs fun e u' w' => (∃ v, e = .returned v) ∧ settle u' = .returning ∧ ∃ μ' S', K S' ∧ Repr μ' S' w' ∧ Keeps μ (Mut μ S) w μ' (Mut μ' S') w'))
        (bodyPostS P fn c₀ cs fun e u' w' => (∃ v, e = .returned v) ∧ settle u' = .returning ∧ ∃ μ' S', K S' ∧ Repr μ' S' w' ∧ Keeps μ (Mut μ S) w μ' (Mut μ' S') w')) [1] a ({ c₀ with mode := u1 } :: cs) w := by
    intro a hd hn hfr
    simp only [wpOpsS, i1, hw1, if_true]
    have hrun1 : (execOp a.eval o1).run P w = .ok (.value (a.eval (.tmp d0))) w := by simp [execOp, h1]
    rw [hrun1]
    simp only [Oper.upon, Exit.thenS]
    have hfr1 : FrRep μ (Mut μ S) w (upd (upd (initFr args 0 fr0) d0 (mV m)) d1 (mV m)) (a.put o1.dst (a.eval (.tmp d0))) := by
      have := hfr.put (d := o1.dst) (v := mV m) (x := a.eval (.tmp d0)) (by rw [e1]; simp [dstOk, l1]) hn (by
        have := hfr d0
        rw [upd_same] at this
        exact this)
      rw [e1] at this
      rw [e1]
      exact this
    refine st _ _ ?_ ?_ hfr1 rfl
    · rw [e1]; simp only [Act.put]; exact hd
    · rw [e1]; simp [Act.put, hn]
  unfold wpOpsS
  simp only [i0, hw0, if_true, hrun0]
  have hfr0 : FrRep μ (Mut μ S) w (upd (initFr args 0 fr0) d0 (mV m)) (({ tmps := vs.toArray ++ Array.replicate (fn.ntmps - vs.toArray.size) undef, defers := [] } : Act).put o0.dst x) := by
    have := hf0.put (n := fn.ntmps) (d := o0.dst) (v := mV m) (x := x) (by rw [e0]; simp [dstOk, l0]) (by simp; omega) hx
    rw [e0] at this
    rw [e0]
    exact this
  have hp1 : ((({ tmps := vs.toArray ++ Array.replicate (fn.ntmps - vs.toArray.size) undef, defers := [] } : Act).put o0.dst x)).defers = [] := by rw [e0]; rfl
  have hp2 : ((({ tmps := vs.toArray ++ Array.replicate (fn.ntmps - vs.toArray.size) undef, defers := [] } : Act).put o0.dst x)).tmps.size = fn.ntmps := by rw [e0]; simp [Act.put]; omega
  have sec := second _ hp1 hp2 hfr0
  rcases hrec with ⟨hrec, rfl, hu1⟩ | hrec
  · rw [hrec]
    rw [hu1] at sec
    exact sec
  · rw [hrec]
    exact sec

/-! ## The function that puts it off -/
def QPut (P : Program) (g : FuncId) (caps : List AV) (rs : List LRes) (K : AEnd → Store → Prop) : Qx := fun e fr S => match e with
  | .normal | .ret => ADef P g caps S none fun S' => ∃ vs, resL S' fr rs = some vs ∧ K (.ret (pack vs)) S'
  | .pan v => ADef P g caps S (some v) fun S' => ∃ vs, resL S' fr rs = some vs ∧ K (.ret (pack vs)) S'
  | .exit _ => False
def QFst (P : Program) (l1 : LCode) (g : FuncId) (d : Nat) (caps : List LX) (rs : List LRes) (K : AEnd → Store → Prop) : Qx := fun e fr S => match e with
  | .normal => vc P l1 (QPut P g (caps.map (ev fr)) rs K) (upd fr d (.fn (.func g) (caps.map (ev fr)))) S
  | _ => False

theorem acalls_of_defer {f : FuncId} {fn : Func} {id : Nat} {o0 o1 : Oper} {c0 c1 : Code} {l0 l1 : LCode} {g : FuncId} {d : Nat} {caps : Array Operand} {lcaps : List LX} {rs : List LRes} {args : List AV} {S : Store} {K : AEnd → Store → Prop}
    (hf : P.funcs[f]? = some fn) (hb : fn.body = some (.seq c0 (.seq (.region id #[o0, o1] false) c1))) (hc0 : lowerC P fn.ntmps c0 = some l0) (hc1 : lowerC P fn.ntmps c1 = some l1) (hres : lowerRes P fn.results.toList = some rs)
    (h0 : o0.op = .makeFunc (.func g) #[] caps) (g0 : o0.guard = none) (e0 : o0.dst = some d) (hcaps : lowerXs caps.toList = some lcaps) (hbody : hasBody P g = true)
    (h1 : o1.op = .defer { callee := .value (.tmp d), args := #[], argTypes := #[] }) (g1 : o1.guard = none) (e1 : o1.dst = none) (ld : d < fn.ntmps) (hle : args.length ≤ fn.ntmps)
    (h : vc P l0 (QFst P l1 g d lcaps rs K) (initFr args 0 fr0) S) : ACalls P f args S K := by
  intro μ w vs hr hv
  have hlen := hv.length
  refine calls_of_wp_defers hf hb (wp_seq ?_)
  refine wp_mono (vc_sound (n := fn.ntmps) (ds := []) c0 l0 _ _ S μ w _ hc0 h ⟨hr, initFr_rep hv fn.ntmps, by simp; omega, rfl⟩) fun e a w1 ⟨μ1, S1, fr1, z, b1, b2, b3, b4⟩ => ?_
  cases z <;> first | exact b1.elim | skip
  cases e <;> first | exact b4.elim | skip
  simp only [QFst] at b1
  have hcv := lowerXs_sound b2.fr hcaps
  obtain ⟨capv, hcapv⟩ : ∃ capv : Array Value, capv = caps.map a.eval := ⟨_, rfl⟩
  have hcl : caps.toList.map a.eval = capv.toList := by rw [hcapv]; simp
  rw [hcl] at hcv
  have hrange : List.range (#[o0, o1] : Array Oper).size = [0, 1] := rfl
  have i0 : (#[o0, o1] : Array Oper)[0]? = some o0 := rfl
  have i1 : (#[o0, o1] : Array Oper)[1]? = some o1 := rfl
  have hw0 : ∀ y, Region.wanted o0 y = true := fun y => by simp [Region.wanted, g0]
  have hw1 : ∀ y, Region.wanted o1 y = true := fun y => by simp [Region.wanted, g1]
  have hrun0 : (execOp a.eval o0).run P w1 = .ok (.value (.func (.func g) #[] capv)) w1 := by simp [execOp, h0, Instr.makeFunc, hcapv]
  have hfn : Rep μ1 (Mut μ1 S1) w1 (.fn (.func g) (lcaps.map (ev fr1))) (.func (.func g) #[] capv) := by simp only [Rep]; exact ⟨capv, rfl, hcv⟩
  have hfr1 := b2.fr.put (d := o0.dst) (by rw [e0]; simp [dstOk, ld]) b2.size hfn
  have hsz1 : (a.put o0.dst (.func (.func g) #[] capv)).tmps.size = fn.ntmps := by rw [e0]; simp [Act.put, b2.size]
  have hdf1 : (a.put o0.dst (.func (.func g) #[] capv)).defers = [] := by rw [e0]; exact b2.defers
  have hev1 : (a.put o0.dst (.func (.func g) #[] capv)).eval (.tmp d) = .func (.func g) #[] capv := by
    rw [e0]
    simp [Act.eval, Act.put, Array.getD_eq_getD_getElem?, b2.size, ld]
  rw [e0] at hfr1
  generalize hA : a.put o0.dst (.func (.func g) #[] capv) = A at hsz1 hdf1 hev1
  rw [← e0, hA] at hfr1
  have hrun1 : (execOp A.eval o1).run P w1 = .ok (.defer { target := .fn (.func g) capv, args := #[] }) w1 := by
    simp [execOp, h1, resolve, hev1, Deferred.ofValue]
  refine wp_seq (wp_region ?_)
  rw [hrange]
  simp only [wpOps, i0, i1, hw0, hw1, if_true, Oper.wp, hrun0, Oper.upon_value, hA, hrun1, Oper.upon_defer]
  refine .inl (.inl ?_)
  simp only [Exit.then, hdf1, e1, Act.put]
  rw [e0] at hfr1
  refine wp_mono (vc_sound (n := fn.ntmps) (ds := [{ target := .fn (.func g) capv, args := #[] }]) c1 l1 _ _ S1 μ1 w1 _ hc1 b1 ⟨b2.repr, hfr1, hsz1, rfl⟩) fun e2 a2 w2 ⟨μ2, S2, fr2, z, q1, q2, q3, q4⟩ => ?_
  have hcv2 := RepVals.keep q3 _ _ hcv
  have hinv : (invoke (.fn (.func g) capv) #[]).run P w2 = .ok (.enter g capv) w2 := by
    simp [invoke, run_callFunc hbody]
  have fin : ∀ (m : Option AV) (u : FrameMode), u ≠ .run → RepM μ2 (Mut μ2 S2) w2 m u → ADef P g (lcaps.map (ev fr1)) S2 m (fun S' => ∃ vs, resL S' fr2 rs = some vs ∧ K (.ret (pack vs)) S') →
      Leaves P fn a2.tmps (fun e w' => ∃ μ' S' r, K r S' ∧ Repr μ' S' w' ∧ Keeps μ (Mut μ S) w μ' (Mut μ' S') w' ∧ RepEnd μ' (Mut μ' S') w' r e) [{ target := .fn (.func g) capv, args := #[] }] u w2 := by
    intro m u hu hm had
    refine leaves_cons hu hinv ?_
    have := had μ2 w2 capv.toList u q2.repr hcv2 hm
    simp only [Array.toArray_toList] at this
    refine this.mono fun e3 u3 w3 ⟨⟨v3, hv3⟩, hset, μ3, S3, ⟨vs3, r1, r2⟩, r3, r4⟩ => ?_
    subst hv3
    simp only [hset]
    obtain ⟨y, y1, y2⟩ := results_sound (fn := fn) r3 (q2.fr.keep r4) hres r1
    exact ⟨y, y1, μ3, S3, _, r2, r3, b3.trans (q3.trans r4), y2⟩
  cases z with
  | normal =>
    cases e2 <;> first | exact q4.elim | skip
    simp only [bodyPostD, q2.defers]
    exact fin none .returning (by simp) trivial q1
  | ret =>
    cases e2 <;> first | exact q4.elim | skip
    simp only [bodyPostD, q2.defers]
    exact fin none .returning (by simp) trivial q1
  | pan v =>
    cases e2 <;> first | exact q4.elim | skip
    obtain ⟨x, hx1, hx2⟩ := q4
    simp only [bodyPostD, q2.defers]
    exact fin (some v) _ (by simp) ⟨x, hx1, hx2⟩ q1
  | exit i => exact q1.elim
end
/-- The parts of such functions, lowered. -/
def partA (P : Program) (f : FuncId) : Option LCode := match P.funcs[f]? with
  | some fn => match fn.body with
    | some (.seq c0 (.seq _ _)) => lowerC P fn.ntmps c0
    | _ => none
  | none => none
def partB (P : Program) (f : FuncId) : Option LCode := match P.funcs[f]? with
  | some fn => match fn.body with
    | some (.seq _ (.seq _ c1)) => lowerC P fn.ntmps c1
    | _ => none
  | none => none
def partD (P : Program) (f : FuncId) : Option LCode := match P.funcs[f]? with
  | some fn => match fn.body with
    | some (.seq _ c1) => lowerC P fn.ntmps c1
    | _ => none
  | none => none
end Go.Proofs.Ytmlllckecalaaaa.Eng

namespace Go.Proofs.Ytmlllckecalaaaa.Eng
open Go Go.Proofs.Try

/-! ## A number out of bytes -/
def getS (l : List UInt8) : Nat := l.foldl (fun v b => v * 256 + b.toNat) 0
theorem getS_app (l : List UInt8) (b : UInt8) : getS (l ++ [b]) = getS l * 256 + b.toNat := by simp [getS, List.foldl_append]
theorem take_get {α : Type} {l : List α} {i : Nat} {b : α} (h : l[i]? = some b) : l.take (i + 1) = l.take i ++ [b] := by rw [List.take_add_one, h]; rfl
theorem getS_lt (l : List UInt8) : getS l < 256 ^ l.length := by
  obtain ⟨n, hn⟩ : ∃ n, n = l.length := ⟨_, rfl⟩
  induction n generalizing l with
  | zero => rw [List.eq_nil_of_length_eq_zero hn.symm]; decide
  | succ n ih =>
    obtain ⟨a, b, rfl⟩ : ∃ a b, l = a ++ [b] := ⟨l.dropLast, l.getLast (by intro h; simp [h] at hn), (List.dropLast_concat_getLast _).symm⟩
    have := ih a (by simp at hn; omega)
    have hb := b.toNat_lt
    rw [getS_app, List.length_append, List.length_singleton, Nat.pow_succ]
    omega
theorem or_nat (a b : Nat) (ha : a < 2 ^ 63) (hb : b < 2 ^ 63) : IntKind.i64.wrap ((BitVec.ofInt IntKind.i64.bits a ||| BitVec.ofInt IntKind.i64.bits b).toNat : Int) = ((a ||| b : Nat) : Int) := by
  have hbits : IntKind.i64.bits = 64 := rfl
  have h := Nat.or_lt_two_pow ha hb
  rw [hbits, BitVec.toNat_or, BitVec.toNat_ofInt, BitVec.toNat_ofInt]
  have e1 : ((a : Int) % ((2 ^ 64 : Nat) : Int)).toNat = a := by omega
  have e2 : ((b : Int) % ((2 ^ 64 : Nat) : Int)).toNat = b := by omega
  rw [e1, e2, w64 _ (by omega) (by omega)]
theorem or_byte (v : Nat) (b : UInt8) : (v * 256 ||| b.toNat) = v * 256 + b.toNat := by
  have := Nat.shiftLeft_add_eq_or_of_lt (b := b.toNat) (i := 8) b.toNat_lt v
  rw [Nat.shiftLeft_eq] at this
  exact this.symm
theorem pow256 (n : Nat) (h : n ≤ 6) : 256 ^ n ≤ 281474976710656 := by
  have : n = 0 ∨ n = 1 ∨ n = 2 ∨ n = 3 ∨ n = 4 ∨ n = 5 ∨ n = 6 := by omega
  rcases this with rfl | rfl | rfl | rfl | rfl | rfl | rfl <;> decide

theorem c67 (l : List UInt8) (h1 : 1 ≤ l.length) (h7 : l.length ≤ 7) : Pure prog 67 [.str l] (.tup [.int .i64 (getS l), .int .i64 0]) := by
  refine Pure.of (fun _ _ => by simp only [nm, nmL, and_self]) fun S => acalls_of_vc low67 (by simp) ?_
  have hx := Ext.refl S
  have g1 : ¬ ((l.length : Int) < 1) := by omega
  have g2 : ¬ ((l.length : Int) > 7) := by omega
  simp -implicitDefEqProofs only [B67, g1, g2, decide_false, vc_region, vc_quiet, vcD_nil, vcD_val, vcD_eff, vcD_guard, vcDOut, vcDEff, vcDGuard, saysAll, pendAll, pendNext, addPend, Says, vc_bad, vc_seq, vc_ret, vc_skip, vc_cond, vcCond, vc_block, vc_exit, vcGrps_nil, vcGrps_cons, vcGrps_guard, vcGuard, vcOps_nil, vcOps_cons, vcOut, KCall_ret, KCall_pan, skipF_nil, skipF_cons, Qseq_normal, Qseq_ret, Qseq_exit, Qseq_pan, Qblk_normal, Qblk_exit, Qblk_ret, Qblk_pan, Qpan_eq, Qcut_normal, Qcut_exit, Qcut_ret, Qcut_pan, Qloop_normal, Qloop_exit, Qloop_ret, Qloop_pan,
    stepOp, ev, upd_apply, putF, cellsOf, deref, faddrV, mk, abin, abinI, abinS, ibits, aeqb, aun, fldV, idxOf, elems, isPtr, putRef, splice, fillA, rowsA, minV, peqV, elemsA, rowBytes, strOf, Store.get_push, Store.get_set, Store.n_push, Store.n_set,
    Option.map_some, Option.map_none, reduceIte, Nat.reduceEqDiff, Nat.reduceAdd, Nat.reduceLeDiff, Nat.reduceLT, Nat.zero_add, Nat.add_zero, Nat.add_assoc, Nat.add_left_cancel_iff, Nat.left_eq_add, Nat.add_eq_left, Nat.lt_irrefl, Nat.le_refl,
    List.drop_zero, List.drop_succ_cons, List.take_succ_cons, List.take_zero, List.headD_cons, List.length_cons, List.length_nil, List.getElem?_cons_zero, List.getElem?_cons_succ, List.set_cons_zero, List.set_cons_succ, List.map_cons, List.map_nil,
    Bool.not_true, Bool.not_false, Bool.false_eq_true, Bool.true_eq_false, Bool.not_eq_true', Bool.not_eq_false', eq_self, false_imp_iff, true_imp_iff, and_true, true_and, and_false, false_and, or_true, true_or, initFr, fr0_at, Qend, resL, resV1, pack,
    decide_eq_true_eq, decide_eq_false_iff_not, Int.toNat_natCast, Option.some.injEq, exists_eq_left', vcCond_T, vcCond_F]
  intro _ _ _
  refine vc_loop (fun n fr T => ∃ i, i + n = l.length ∧ fr 0 = .str l ∧ fr 15 = .int .i64 l.length ∧ fr 16 = .int .i64 i ∧ fr 4 = .int .i64 (getS (l.take i)) ∧ T = S) l.length ⟨0, by simp, by simp [upd_apply], by simp [upd_apply], rfl, by simp [upd_apply, getS], rfl⟩ ?_
  rintro n fr T ⟨i, hin, f0, f15, f16, f4, rfl⟩
  by_cases hlt : i < l.length
  · obtain ⟨b, hb⟩ : ∃ b, l[i]? = some b := ⟨_, List.getElem?_eq_getElem hlt⟩
    have h0 : (0 : Int) ≤ i := by omega
    have hlt' : (i : Int) < l.length := by omega
    have hi1 : IntKind.i64.wrap ((i : Int) + 1) = i + 1 := w64 _ (by omega) (by omega)
    have hv := getS_lt (l.take i)
    rw [List.length_take, Nat.min_eq_left (by omega)] at hv
    have hp := pow256 i (by omega)
    have hsh : IntKind.i64.wrap ((getS (l.take i) : Int) * 2 ^ min (Int.toNat 8) IntKind.i64.bits) = ((getS (l.take i) * 256 : Nat) : Int) := by
      have e8 : (2 : Int) ^ min (Int.toNat 8) IntKind.i64.bits = 256 := rfl
      rw [e8, w64 _ (by omega) (by omega)]; omega
    have hwb : IntKind.i64.wrap (b.toNat : Int) = b.toNat := w64 _ (by omega) (by have := b.toNat_lt; omega)
    have hor := or_nat (getS (l.take i) * 256) b.toNat (by omega) (by have := b.toNat_lt; omega)
    rw [or_byte] at hor
    have h08 : ¬ (8 : Int) < 0 := by decide
    simp -implicitDefEqProofs only [f0, f15, f16, f4, ashift, hlt', h0, h08, hb, hi1, hsh, hwb, hor, decide_true, vc_region, vc_quiet, vcD_nil, vcD_val, vcD_eff, vcD_guard, vcDOut, vcDEff, vcDGuard, saysAll, pendAll, pendNext, addPend, Says, vc_bad, vc_seq, vc_ret, vc_skip, vc_cond, vcCond, vc_block, vc_exit, vcGrps_nil, vcGrps_cons, vcGrps_guard, vcGuard, vcOps_nil, vcOps_cons, vcOut, KCall_ret, KCall_pan, skipF_nil, skipF_cons, Qseq_normal, Qseq_ret, Qseq_exit, Qseq_pan, Qblk_normal, Qblk_exit, Qblk_ret, Qblk_pan, Qpan_eq, Qcut_normal, Qcut_exit, Qcut_ret, Qcut_pan, Qloop_normal, Qloop_exit, Qloop_ret, Qloop_pan,
    stepOp, ev, upd_apply, putF, cellsOf, deref, faddrV, mk, abin, abinI, abinS, ibits, aeqb, aun, fldV, idxOf, elems, isPtr, putRef, splice, fillA, rowsA, minV, peqV, elemsA, rowBytes, strOf, Store.get_push, Store.get_set, Store.n_push, Store.n_set,
    Option.map_some, Option.map_none, reduceIte, Nat.reduceEqDiff, Nat.reduceAdd, Nat.reduceLeDiff, Nat.reduceLT, Nat.zero_add, Nat.add_zero, Nat.add_assoc, Nat.add_left_cancel_iff, Nat.left_eq_add, Nat.add_eq_left, Nat.lt_irrefl, Nat.le_refl,
    List.drop_zero, List.drop_succ_cons, List.take_succ_cons, List.take_zero, List.headD_cons, List.length_cons, List.length_nil, List.getElem?_cons_zero, List.getElem?_cons_succ, List.set_cons_zero, List.set_cons_succ, List.map_cons, List.map_nil,
    Bool.not_true, Bool.not_false, Bool.false_eq_true, Bool.true_eq_false, Bool.not_eq_true', Bool.not_eq_false', eq_self, false_imp_iff, true_imp_iff, and_true, true_and, and_false, false_and, or_true, true_or, initFr, fr0_at, Qend, resL, resV1, pack,
    decide_eq_true_eq, decide_eq_false_iff_not, Int.toNat_natCast, Option.some.injEq, exists_eq_left', vcCond_T, vcCond_F]
    exact ⟨n - 1, by omega, i + 1, by omega, by simp, by rw [take_get hb, getS_app]⟩
  · have hlt' : ¬ (i : Int) < l.length := by omega
    have hi : i = l.length := by omega
    rw [hi, List.take_length] at f4
    simp -implicitDefEqProofs only [f0, f15, f16, f4, hlt', decide_false, vc_region, vc_quiet, vcD_nil, vcD_val, vcD_eff, vcD_guard, vcDOut, vcDEff, vcDGuard, saysAll, pendAll, pendNext, addPend, Says, vc_bad, vc_seq, vc_ret, vc_skip, vc_cond, vcCond, vc_block, vc_exit, vcGrps_nil, vcGrps_cons, vcGrps_guard, vcGuard, vcOps_nil, vcOps_cons, vcOut, KCall_ret, KCall_pan, skipF_nil, skipF_cons, Qseq_normal, Qseq_ret, Qseq_exit, Qseq_pan, Qblk_normal, Qblk_exit, Qblk_ret, Qblk_pan, Qpan_eq, Qcut_normal, Qcut_exit, Qcut_ret, Qcut_pan, Qloop_normal, Qloop_exit, Qloop_ret, Qloop_pan,
    stepOp, ev, upd_apply, putF, cellsOf, deref, faddrV, mk, abin, abinI, abinS, ibits, aeqb, aun, fldV, idxOf, elems, isPtr, putRef, splice, fillA, rowsA, minV, peqV, elemsA, rowBytes, strOf, Store.get_push, Store.get_set, Store.n_push, Store.n_set,
    Option.map_some, Option.map_none, reduceIte, Nat.reduceEqDiff, Nat.reduceAdd, Nat.reduceLeDiff, Nat.reduceLT, Nat.zero_add, Nat.add_zero, Nat.add_assoc, Nat.add_left_cancel_iff, Nat.left_eq_add, Nat.add_eq_left, Nat.lt_irrefl, Nat.le_refl,
    List.drop_zero, List.drop_succ_cons, List.take_succ_cons, List.take_zero, List.headD_cons, List.length_cons, List.length_nil, List.getElem?_cons_zero, List.getElem?_cons_succ, List.set_cons_zero, List.set_cons_succ, List.map_cons, List.map_nil,
    Bool.not_true, Bool.not_false, Bool.false_eq_true, Bool.true_eq_false, Bool.not_eq_true', Bool.not_eq_false', eq_self, false_imp_iff, true_imp_iff, and_true, true_and, and_false, false_and, or_true, true_or, initFr, fr0_at, Qend, resL, resV1, pack,
    decide_eq_true_eq, decide_eq_false_iff_not, Int.toNat_natCast, Option.some.injEq, exists_eq_left', vcCond_T, vcCond_F]
    exact hx

/-! ## The head of an element -/
def rheadS : List UInt8 → Nat × Nat × Nat
  | [] => (0, 0, 20)
  | [c] => if c.toNat % 32 = 31 then (0, 0, 21) else (0, 0, 20)
  | c :: d :: r => if c.toNat % 32 = 31 then (0, 0, 21) else if d.toNat < 128 then (2, d.toNat, 0) else if d.toNat < 129 ∨ d.toNat > 132 then (0, 0, 22) else
    if r.length < d.toNat - 128 then (0, 0, 20) else (2 + (d.toNat - 128), getS (r.take (d.toNat - 128)), 0)
def headS (b : List UInt8) : Nat × Nat × Nat := if (rheadS b).1 + (rheadS b).2.1 > 65536 then (0, 0, 2) else rheadS b
def encH (x : Nat × Nat × Nat) : AV := .tup [.int .i64 (x.1 : Nat), .int .i64 (x.2.1 : Nat), .int .i64 (x.2.2 : Nat)]

theorem and31 : ∀ (c : UInt8), IntKind.u8.wrap ((BitVec.ofInt IntKind.u8.bits (c.toNat : Int) &&& BitVec.ofInt IntKind.u8.bits 31).toNat : Int) = ((c.toNat % 32 : Nat) : Int) := by
  have h : ∀ c : Fin 256, IntKind.u8.wrap ((BitVec.ofInt IntKind.u8.bits (c.val : Int) &&& BitVec.ofInt IntKind.u8.bits 31).toNat : Int) = ((c.val % 32 : Nat) : Int) := by decide +kernel
  exact fun c => h ⟨c.toNat, c.toNat_lt⟩

theorem c52 (b : List UInt8) : Pure prog 52 [.str b] (encH (headS b)) := by
  refine Pure.of (fun _ _ => by simp only [encH, nm, nmL, and_self]) fun S => acalls_of_vc low52 (by simp) ?_
  have hx := Ext.refl S
  have hz : Int.toNat 0 = 0 := rfl
  have hz1 : Int.toNat 1 = 1 := rfl
  have hc1 : ((1 : Nat) : Int) = 1 := rfl
  match b with
  | [] =>
    simp -implicitDefEqProofs only [B52, vc_region, vc_quiet, vcD_nil, vcD_val2, vcDO_val, vcDO_asks, vcD_eff, vcD_guard2, vcDG_TT, vcDG_FF, vcDG_TF, vcDG_FT, vcDG_und, vcDG_Tdec, vcDG_Fdec, vcDEff, saysAll, pendAll, pendNext, addPend, Says, vc_bad, vc_seq, vc_ret, vc_skip, vc_block, vc_exit, vcGrps_nil, vcGrps_cons, vcGrps_guard2, vcG2_bool, vcG2_und, vcGB_TT, vcGB_FF, vcGB_TF, vcGB_FT, vcGB_Tdec, vcGB_Fdec, vcOps_nil, vcOps_cons, vcOut, KCall_ret, KCall_pan, skipF_nil, skipF_cons, Qseq_normal, Qseq_ret, Qseq_exit, Qseq_pan, Qblk_normal, Qblk_exit, Qblk_ret, Qblk_pan, Qpan_eq, Qcut_normal, Qcut_exit, Qcut_ret, Qcut_pan, Qloop_normal, Qloop_exit, Qloop_ret, Qloop_pan,
    stepOp, ev, upd_apply, putF, cellsOf, deref, faddrV, mk, abin, abinI, abinS, ibits, aeqb, aun, fldV, idxOf, elems, isPtr, putRef, splice, fillA, rowsA, minV, peqV, elemsA, rowBytes, strOf, Store.get_push, Store.get_set, Store.n_push, Store.n_set,
    Option.map_some, Option.map_none, reduceIte, Nat.reduceEqDiff, Nat.reduceAdd, Nat.reduceLeDiff, Nat.reduceLT, Nat.zero_add, Nat.add_zero, Nat.add_assoc, Nat.add_left_cancel_iff, Nat.left_eq_add, Nat.add_eq_left, Nat.lt_irrefl, Nat.le_refl,
    List.drop_zero, List.drop_succ_cons, List.take_succ_cons, List.take_zero, List.headD_cons, List.length_cons, List.length_nil, List.getElem?_cons_zero, List.getElem?_cons_succ, List.set_cons_zero, List.set_cons_succ, List.map_cons, List.map_nil,
    Bool.not_true, Bool.not_false, Bool.false_eq_true, Bool.true_eq_false, Bool.not_eq_true', Bool.not_eq_false', eq_self, false_imp_iff, true_imp_iff, and_true, true_and, and_false, false_and, or_true, true_or, initFr, fr0_at, Qend, resL, resV1, pack,
    decide_eq_true_eq, decide_eq_false_iff_not, Int.toNat_natCast, Option.some.injEq, exists_eq_left', vc_cond2, vcC2_bool, vcCB_T, vcCB_F, vcCB_dec, decide_true, decide_false]
    exact ⟨rfl, hx⟩
  | [c] =>
    have hne : ¬ [c] = [] := by simp
    have h0 : (0 : Int) ≤ 0 := by decide
    have a31 := and31 c
    by_cases h31 : c.toNat % 32 = 31
    · have hg : ((c.toNat % 32 : Nat) : Int) > 30 := by omega
      simp -implicitDefEqProofs only [B52, hne, h0, hz, a31, hg, vc_region, vc_quiet, vcD_nil, vcD_val2, vcDO_val, vcDO_asks, vcD_eff, vcD_guard2, vcDG_TT, vcDG_FF, vcDG_TF, vcDG_FT, vcDG_und, vcDG_Tdec, vcDG_Fdec, vcDEff, saysAll, pendAll, pendNext, addPend, Says, vc_bad, vc_seq, vc_ret, vc_skip, vc_block, vc_exit, vcGrps_nil, vcGrps_cons, vcGrps_guard2, vcG2_bool, vcG2_und, vcGB_TT, vcGB_FF, vcGB_TF, vcGB_FT, vcGB_Tdec, vcGB_Fdec, vcOps_nil, vcOps_cons, vcOut, KCall_ret, KCall_pan, skipF_nil, skipF_cons, Qseq_normal, Qseq_ret, Qseq_exit, Qseq_pan, Qblk_normal, Qblk_exit, Qblk_ret, Qblk_pan, Qpan_eq, Qcut_normal, Qcut_exit, Qcut_ret, Qcut_pan, Qloop_normal, Qloop_exit, Qloop_ret, Qloop_pan,
    stepOp, ev, upd_apply, putF, cellsOf, deref, faddrV, mk, abin, abinI, abinS, ibits, aeqb, aun, fldV, idxOf, elems, isPtr, putRef, splice, fillA, rowsA, minV, peqV, elemsA, rowBytes, strOf, Store.get_push, Store.get_set, Store.n_push, Store.n_set,
    Option.map_some, Option.map_none, reduceIte, Nat.reduceEqDiff, Nat.reduceAdd, Nat.reduceLeDiff, Nat.reduceLT, Nat.zero_add, Nat.add_zero, Nat.add_assoc, Nat.add_left_cancel_iff, Nat.left_eq_add, Nat.add_eq_left, Nat.lt_irrefl, Nat.le_refl,
    List.drop_zero, List.drop_succ_cons, List.take_succ_cons, List.take_zero, List.headD_cons, List.length_cons, List.length_nil, List.getElem?_cons_zero, List.getElem?_cons_succ, List.set_cons_zero, List.set_cons_succ, List.map_cons, List.map_nil,
    Bool.not_true, Bool.not_false, Bool.false_eq_true, Bool.true_eq_false, Bool.not_eq_true', Bool.not_eq_false', eq_self, false_imp_iff, true_imp_iff, and_true, true_and, and_false, false_and, or_true, true_or, initFr, fr0_at, Qend, resL, resV1, pack,
    decide_eq_true_eq, decide_eq_false_iff_not, Int.toNat_natCast, Option.some.injEq, exists_eq_left', vc_cond2, vcC2_bool, vcCB_T, vcCB_F, vcCB_dec, decide_true, decide_false]
      exact ⟨by simp [headS, rheadS, h31, encH], hx⟩
    · have hg : ¬ ((c.toNat % 32 : Nat) : Int) > 30 := by omega
      simp -implicitDefEqProofs only [B52, hne, h0, hz, hc1, a31, hg, vc_region, vc_quiet, vcD_nil, vcD_val2, vcDO_val, vcDO_asks, vcD_eff, vcD_guard2, vcDG_TT, vcDG_FF, vcDG_TF, vcDG_FT, vcDG_und, vcDG_Tdec, vcDG_Fdec, vcDEff, saysAll, pendAll, pendNext, addPend, Says, vc_bad, vc_seq, vc_ret, vc_skip, vc_block, vc_exit, vcGrps_nil, vcGrps_cons, vcGrps_guard2, vcG2_bool, vcG2_und, vcGB_TT, vcGB_FF, vcGB_TF, vcGB_FT, vcGB_Tdec, vcGB_Fdec, vcOps_nil, vcOps_cons, vcOut, KCall_ret, KCall_pan, skipF_nil, skipF_cons, Qseq_normal, Qseq_ret, Qseq_exit, Qseq_pan, Qblk_normal, Qblk_exit, Qblk_ret, Qblk_pan, Qpan_eq, Qcut_normal, Qcut_exit, Qcut_ret, Qcut_pan, Qloop_normal, Qloop_exit, Qloop_ret, Qloop_pan,
    stepOp, ev, upd_apply, putF, cellsOf, deref, faddrV, mk, abin, abinI, abinS, ibits, aeqb, aun, fldV, idxOf, elems, isPtr, putRef, splice, fillA, rowsA, minV, peqV, elemsA, rowBytes, strOf, Store.get_push, Store.get_set, Store.n_push, Store.n_set,
    Option.map_some, Option.map_none, reduceIte, Nat.reduceEqDiff, Nat.reduceAdd, Nat.reduceLeDiff, Nat.reduceLT, Nat.zero_add, Nat.add_zero, Nat.add_assoc, Nat.add_left_cancel_iff, Nat.left_eq_add, Nat.add_eq_left, Nat.lt_irrefl, Nat.le_refl,
    List.drop_zero, List.drop_succ_cons, List.take_succ_cons, List.take_zero, List.headD_cons, List.length_cons, List.length_nil, List.getElem?_cons_zero, List.getElem?_cons_succ, List.set_cons_zero, List.set_cons_succ, List.map_cons, List.map_nil,
    Bool.not_true, Bool.not_false, Bool.false_eq_true, Bool.true_eq_false, Bool.not_eq_true', Bool.not_eq_false', eq_self, false_imp_iff, true_imp_iff, and_true, true_and, and_false, false_and, or_true, true_or, initFr, fr0_at, Qend, resL, resV1, pack,
    decide_eq_true_eq, decide_eq_false_iff_not, Int.toNat_natCast, Option.some.injEq, exists_eq_left', vc_cond2, vcC2_bool, vcCB_T, vcCB_F, vcCB_dec, decide_true, decide_false]
      intro _
      exact ⟨by simp [headS, rheadS, h31, encH], hx⟩
  | c :: d :: r =>
    have hne : ¬ c :: d :: r = [] := by simp
    have h0 : (0 : Int) ≤ 0 := by decide
    have h01 : (0 : Int) ≤ 1 := by decide
    have a31 := and31 c
    by_cases h31 : c.toNat % 32 = 31
    · have hg : ((c.toNat % 32 : Nat) : Int) > 30 := by omega
      simp -implicitDefEqProofs only [B52, hne, h0, hz, a31, hg, vc_region, vc_quiet, vcD_nil, vcD_val2, vcDO_val, vcDO_asks, vcD_eff, vcD_guard2, vcDG_TT, vcDG_FF, vcDG_TF, vcDG_FT, vcDG_und, vcDG_Tdec, vcDG_Fdec, vcDEff, saysAll, pendAll, pendNext, addPend, Says, vc_bad, vc_seq, vc_ret, vc_skip, vc_block, vc_exit, vcGrps_nil, vcGrps_cons, vcGrps_guard2, vcG2_bool, vcG2_und, vcGB_TT, vcGB_FF, vcGB_TF, vcGB_FT, vcGB_Tdec, vcGB_Fdec, vcOps_nil, vcOps_cons, vcOut, KCall_ret, KCall_pan, skipF_nil, skipF_cons, Qseq_normal, Qseq_ret, Qseq_exit, Qseq_pan, Qblk_normal, Qblk_exit, Qblk_ret, Qblk_pan, Qpan_eq, Qcut_normal, Qcut_exit, Qcut_ret, Qcut_pan, Qloop_normal, Qloop_exit, Qloop_ret, Qloop_pan,
    stepOp, ev, upd_apply, putF, cellsOf, deref, faddrV, mk, abin, abinI, abinS, ibits, aeqb, aun, fldV, idxOf, elems, isPtr, putRef, splice, fillA, rowsA, minV, peqV, elemsA, rowBytes, strOf, Store.get_push, Store.get_set, Store.n_push, Store.n_set,
    Option.map_some, Option.map_none, reduceIte, Nat.reduceEqDiff, Nat.reduceAdd, Nat.reduceLeDiff, Nat.reduceLT, Nat.zero_add, Nat.add_zero, Nat.add_assoc, Nat.add_left_cancel_iff, Nat.left_eq_add, Nat.add_eq_left, Nat.lt_irrefl, Nat.le_refl,
    List.drop_zero, List.drop_succ_cons, List.take_succ_cons, List.take_zero, List.headD_cons, List.length_cons, List.length_nil, List.getElem?_cons_zero, List.getElem?_cons_succ, List.set_cons_zero, List.set_cons_succ, List.map_cons, List.map_nil,
    Bool.not_true, Bool.not_false, Bool.false_eq_true, Bool.true_eq_false, Bool.not_eq_true', Bool.not_eq_false', eq_self, false_imp_iff, true_imp_iff, and_true, true_and, and_false, false_and, or_true, true_or, initFr, fr0_at, Qend, resL, resV1, pack,
    decide_eq_true_eq, decide_eq_false_iff_not, Int.toNat_natCast, Option.some.injEq, exists_eq_left', vc_cond2, vcC2_bool, vcCB_T, vcCB_F, vcCB_dec, decide_true, decide_false]
      exact ⟨by simp [headS, rheadS, h31, encH], hx⟩
    have hg : ¬ ((c.toNat % 32 : Nat) : Int) > 30 := by omega
    have hl1 : ¬ ((r.length + 1 + 1 : Nat) : Int) = 1 := by omega
    have hwd : IntKind.i64.wrap (d.toNat : Int) = d.toNat := w64 _ (by omega) (by have := d.toNat_lt; omega)
    by_cases hd : d.toNat < 128
    · have hd' : (d.toNat : Int) < 128 := by omega
      simp -implicitDefEqProofs only [B52, hne, h0, h01, hz, hz1, a31, hg, hl1, hd', hwd, vc_region, vc_quiet, vcD_nil, vcD_val2, vcDO_val, vcDO_asks, vcD_eff, vcD_guard2, vcDG_TT, vcDG_FF, vcDG_TF, vcDG_FT, vcDG_und, vcDG_Tdec, vcDG_Fdec, vcDEff, saysAll, pendAll, pendNext, addPend, Says, vc_bad, vc_seq, vc_ret, vc_skip, vc_block, vc_exit, vcGrps_nil, vcGrps_cons, vcGrps_guard2, vcG2_bool, vcG2_und, vcGB_TT, vcGB_FF, vcGB_TF, vcGB_FT, vcGB_Tdec, vcGB_Fdec, vcOps_nil, vcOps_cons, vcOut, KCall_ret, KCall_pan, skipF_nil, skipF_cons, Qseq_normal, Qseq_ret, Qseq_exit, Qseq_pan, Qblk_normal, Qblk_exit, Qblk_ret, Qblk_pan, Qpan_eq, Qcut_normal, Qcut_exit, Qcut_ret, Qcut_pan, Qloop_normal, Qloop_exit, Qloop_ret, Qloop_pan,
    stepOp, ev, upd_apply, putF, cellsOf, deref, faddrV, mk, abin, abinI, abinS, ibits, aeqb, aun, fldV, idxOf, elems, isPtr, putRef, splice, fillA, rowsA, minV, peqV, elemsA, rowBytes, strOf, Store.get_push, Store.get_set, Store.n_push, Store.n_set,
    Option.map_some, Option.map_none, reduceIte, Nat.reduceEqDiff, Nat.reduceAdd, Nat.reduceLeDiff, Nat.reduceLT, Nat.zero_add, Nat.add_zero, Nat.add_assoc, Nat.add_left_cancel_iff, Nat.left_eq_add, Nat.add_eq_left, Nat.lt_irrefl, Nat.le_refl,
    List.drop_zero, List.drop_succ_cons, List.take_succ_cons, List.take_zero, List.headD_cons, List.length_cons, List.length_nil, List.getElem?_cons_zero, List.getElem?_cons_succ, List.set_cons_zero, List.set_cons_succ, List.map_cons, List.map_nil,
    Bool.not_true, Bool.not_false, Bool.false_eq_true, Bool.true_eq_false, Bool.not_eq_true', Bool.not_eq_false', eq_self, false_imp_iff, true_imp_iff, and_true, true_and, and_false, false_and, or_true, true_or, initFr, fr0_at, Qend, resL, resV1, pack,
    decide_eq_true_eq, decide_eq_false_iff_not, Int.toNat_natCast, Option.some.injEq, exists_eq_left', vc_cond2, vcC2_bool, vcCB_T, vcCB_F, vcCB_dec, decide_true, decide_false]
      intro _
      refine ⟨?_, hx⟩
      rw [headS, rheadS, if_neg h31, if_pos hd, if_neg (by simp only; omega)]; rfl
    have hd' : ¬ (d.toNat : Int) < 128 := by omega
    obtain ⟨n, hn⟩ : ∃ n, n = d.toNat - 128 := ⟨_, rfl⟩
    have hdl := d.toNat_lt
    have hws : IntKind.i64.wrap ((d.toNat : Int) - 128) = (n : Nat) := by rw [w64 _ (by omega) (by omega)]; omega
    have hw2 : IntKind.i64.wrap (2 + (n : Int)) = ((2 + n : Nat) : Int) := by rw [w64 _ (by omega) (by omega)]; push_cast; rfl
    by_cases hn1 : d.toNat < 129 ∨ d.toNat > 132
    · have hr : rheadS (c :: d :: r) = (0, 0, 22) := by rw [rheadS, if_neg h31, if_neg hd, if_pos hn1]
      rw [headS, hr, if_neg (by simp)]
      by_cases hn0 : (n : Int) < 1
      · simp -implicitDefEqProofs only [B52, hne, h0, h01, hz, hz1, a31, hg, hl1, hd', hwd, hws, hn0, vc_region, vc_quiet, vcD_nil, vcD_val2, vcDO_val, vcDO_asks, vcD_eff, vcD_guard2, vcDG_TT, vcDG_FF, vcDG_TF, vcDG_FT, vcDG_und, vcDG_Tdec, vcDG_Fdec, vcDEff, saysAll, pendAll, pendNext, addPend, Says, vc_bad, vc_seq, vc_ret, vc_skip, vc_block, vc_exit, vcGrps_nil, vcGrps_cons, vcGrps_guard2, vcG2_bool, vcG2_und, vcGB_TT, vcGB_FF, vcGB_TF, vcGB_FT, vcGB_Tdec, vcGB_Fdec, vcOps_nil, vcOps_cons, vcOut, KCall_ret, KCall_pan, skipF_nil, skipF_cons, Qseq_normal, Qseq_ret, Qseq_exit, Qseq_pan, Qblk_normal, Qblk_exit, Qblk_ret, Qblk_pan, Qpan_eq, Qcut_normal, Qcut_exit, Qcut_ret, Qcut_pan, Qloop_normal, Qloop_exit, Qloop_ret, Qloop_pan,
    stepOp, ev, upd_apply, putF, cellsOf, deref, faddrV, mk, abin, abinI, abinS, ibits, aeqb, aun, fldV, idxOf, elems, isPtr, putRef, splice, fillA, rowsA, minV, peqV, elemsA, rowBytes, strOf, Store.get_push, Store.get_set, Store.n_push, Store.n_set,
    Option.map_some, Option.map_none, reduceIte, Nat.reduceEqDiff, Nat.reduceAdd, Nat.reduceLeDiff, Nat.reduceLT, Nat.zero_add, Nat.add_zero, Nat.add_assoc, Nat.add_left_cancel_iff, Nat.left_eq_add, Nat.add_eq_left, Nat.lt_irrefl, Nat.le_refl,
    List.drop_zero, List.drop_succ_cons, List.take_succ_cons, List.take_zero, List.headD_cons, List.length_cons, List.length_nil, List.getElem?_cons_zero, List.getElem?_cons_succ, List.set_cons_zero, List.set_cons_succ, List.map_cons, List.map_nil,
    Bool.not_true, Bool.not_false, Bool.false_eq_true, Bool.true_eq_false, Bool.not_eq_true', Bool.not_eq_false', eq_self, false_imp_iff, true_imp_iff, and_true, true_and, and_false, false_and, or_true, true_or, initFr, fr0_at, Qend, resL, resV1, pack,
    decide_eq_true_eq, decide_eq_false_iff_not, Int.toNat_natCast, Option.some.injEq, exists_eq_left', vc_cond2, vcC2_bool, vcCB_T, vcCB_F, vcCB_dec, decide_true, decide_false]
        intro _
        exact ⟨rfl, hx⟩
      · have hn4 : (n : Int) > 4 := by omega
        simp -implicitDefEqProofs only [B52, hne, h0, h01, hz, hz1, a31, hg, hl1, hd', hwd, hws, hn0, hn4, vc_region, vc_quiet, vcD_nil, vcD_val2, vcDO_val, vcDO_asks, vcD_eff, vcD_guard2, vcDG_TT, vcDG_FF, vcDG_TF, vcDG_FT, vcDG_und, vcDG_Tdec, vcDG_Fdec, vcDEff, saysAll, pendAll, pendNext, addPend, Says, vc_bad, vc_seq, vc_ret, vc_skip, vc_block, vc_exit, vcGrps_nil, vcGrps_cons, vcGrps_guard2, vcG2_bool, vcG2_und, vcGB_TT, vcGB_FF, vcGB_TF, vcGB_FT, vcGB_Tdec, vcGB_Fdec, vcOps_nil, vcOps_cons, vcOut, KCall_ret, KCall_pan, skipF_nil, skipF_cons, Qseq_normal, Qseq_ret, Qseq_exit, Qseq_pan, Qblk_normal, Qblk_exit, Qblk_ret, Qblk_pan, Qpan_eq, Qcut_normal, Qcut_exit, Qcut_ret, Qcut_pan, Qloop_normal, Qloop_exit, Qloop_ret, Qloop_pan,
    stepOp, ev, upd_apply, putF, cellsOf, deref, faddrV, mk, abin, abinI, abinS, ibits, aeqb, aun, fldV, idxOf, elems, isPtr, putRef, splice, fillA, rowsA, minV, peqV, elemsA, rowBytes, strOf, Store.get_push, Store.get_set, Store.n_push, Store.n_set,
    Option.map_some, Option.map_none, reduceIte, Nat.reduceEqDiff, Nat.reduceAdd, Nat.reduceLeDiff, Nat.reduceLT, Nat.zero_add, Nat.add_zero, Nat.add_assoc, Nat.add_left_cancel_iff, Nat.left_eq_add, Nat.add_eq_left, Nat.lt_irrefl, Nat.le_refl,
    List.drop_zero, List.drop_succ_cons, List.take_succ_cons, List.take_zero, List.headD_cons, List.length_cons, List.length_nil, List.getElem?_cons_zero, List.getElem?_cons_succ, List.set_cons_zero, List.set_cons_succ, List.map_cons, List.map_nil,
    Bool.not_true, Bool.not_false, Bool.false_eq_true, Bool.true_eq_false, Bool.not_eq_true', Bool.not_eq_false', eq_self, false_imp_iff, true_imp_iff, and_true, true_and, and_false, false_and, or_true, true_or, initFr, fr0_at, Qend, resL, resV1, pack,
    decide_eq_true_eq, decide_eq_false_iff_not, Int.toNat_natCast, Option.some.injEq, exists_eq_left', vc_cond2, vcC2_bool, vcCB_T, vcCB_F, vcCB_dec, decide_true, decide_false]
        intro _
        exact ⟨rfl, hx⟩
    have hn0 : ¬ (n : Int) < 1 := by omega
    have hn4 : ¬ (n : Int) > 4 := by omega
    by_cases hrl : r.length < n
    · have hr : rheadS (c :: d :: r) = (0, 0, 20) := by rw [rheadS, if_neg h31, if_neg hd, if_neg hn1, if_pos (by omega)]
      rw [headS, hr, if_neg (by simp)]
      have hl2 : ((r.length + 1 + 1 : Nat) : Int) < ((2 + n : Nat) : Int) := by omega
      simp -implicitDefEqProofs only [B52, hne, h0, h01, hz, hz1, a31, hg, hl1, hd', hwd, hws, hn0, hn4, hw2, hl2, vc_region, vc_quiet, vcD_nil, vcD_val2, vcDO_val, vcDO_asks, vcD_eff, vcD_guard2, vcDG_TT, vcDG_FF, vcDG_TF, vcDG_FT, vcDG_und, vcDG_Tdec, vcDG_Fdec, vcDEff, saysAll, pendAll, pendNext, addPend, Says, vc_bad, vc_seq, vc_ret, vc_skip, vc_block, vc_exit, vcGrps_nil, vcGrps_cons, vcGrps_guard2, vcG2_bool, vcG2_und, vcGB_TT, vcGB_FF, vcGB_TF, vcGB_FT, vcGB_Tdec, vcGB_Fdec, vcOps_nil, vcOps_cons, vcOut, KCall_ret, KCall_pan, skipF_nil, skipF_cons, Qseq_normal, Qseq_ret, Qseq_exit, Qseq_pan, Qblk_normal, Qblk_exit, Qblk_ret, Qblk_pan, Qpan_eq, Qcut_normal, Qcut_exit, Qcut_ret, Qcut_pan, Qloop_normal, Qloop_exit, Qloop_ret, Qloop_pan,
    stepOp, ev, upd_apply, putF, cellsOf, deref, faddrV, mk, abin, abinI, abinS, ibits, aeqb, aun, fldV, idxOf, elems, isPtr, putRef, splice, fillA, rowsA, minV, peqV, elemsA, rowBytes, strOf, Store.get_push, Store.get_set, Store.n_push, Store.n_set,
    Option.map_some, Option.map_none, reduceIte, Nat.reduceEqDiff, Nat.reduceAdd, Nat.reduceLeDiff, Nat.reduceLT, Nat.zero_add, Nat.add_zero, Nat.add_assoc, Nat.add_left_cancel_iff, Nat.left_eq_add, Nat.add_eq_left, Nat.lt_irrefl, Nat.le_refl,
    List.drop_zero, List.drop_succ_cons, List.take_succ_cons, List.take_zero, List.headD_cons, List.length_cons, List.length_nil, List.getElem?_cons_zero, List.getElem?_cons_succ, List.set_cons_zero, List.set_cons_succ, List.map_cons, List.map_nil,
    Bool.not_true, Bool.not_false, Bool.false_eq_true, Bool.true_eq_false, Bool.not_eq_true', Bool.not_eq_false', eq_self, false_imp_iff, true_imp_iff, and_true, true_and, and_false, false_and, or_true, true_or, initFr, fr0_at, Qend, resL, resV1, pack,
    decide_eq_true_eq, decide_eq_false_iff_not, Int.toNat_natCast, Option.some.injEq, exists_eq_left', vc_cond2, vcC2_bool, vcCB_T, vcCB_F, vcCB_dec, decide_true, decide_false]
      intro _ _
      exact ⟨rfl, hx⟩
    have hr : rheadS (c :: d :: r) = (2 + n, getS (r.take n), 0) := by rw [rheadS, if_neg h31, if_neg hd, if_neg hn1, if_neg (by omega), ← hn]
    have hl2 : ¬ ((r.length + 1 + 1 : Nat) : Int) < ((2 + n : Nat) : Int) := by omega
    have hlo : (0 : Int) ≤ 2 := by decide
    have hhi : (0 : Int) ≤ ((2 + n : Nat) : Int) := by omega
    have ht2 : Int.toNat 2 = 2 := rfl
    have hle1 : 2 ≤ 2 + n := by omega
    have hle2 : 2 + n ≤ r.length + 1 + 1 := by omega
    have hsl : List.drop 2 (List.take (2 + n) (c :: d :: r)) = r.take n := by
      rw [show 2 + n = n + 1 + 1 by omega]; rfl
    simp -implicitDefEqProofs only [B52, hne, h0, h01, hz, hz1, a31, hg, hl1, hd', hwd, hws, hn0, hn4, hw2, hl2, hlo, hhi, ht2, hle1, hle2, hsl, vc_region, vc_quiet, vcD_nil, vcD_val2, vcDO_val, vcDO_asks, vcD_eff, vcD_guard2, vcDG_TT, vcDG_FF, vcDG_TF, vcDG_FT, vcDG_und, vcDG_Tdec, vcDG_Fdec, vcDEff, saysAll, pendAll, pendNext, addPend, Says, vc_bad, vc_seq, vc_ret, vc_skip, vc_block, vc_exit, vcGrps_nil, vcGrps_cons, vcGrps_guard2, vcG2_bool, vcG2_und, vcGB_TT, vcGB_FF, vcGB_TF, vcGB_FT, vcGB_Tdec, vcGB_Fdec, vcOps_nil, vcOps_cons, vcOut, KCall_ret, KCall_pan, skipF_nil, skipF_cons, Qseq_normal, Qseq_ret, Qseq_exit, Qseq_pan, Qblk_normal, Qblk_exit, Qblk_ret, Qblk_pan, Qpan_eq, Qcut_normal, Qcut_exit, Qcut_ret, Qcut_pan, Qloop_normal, Qloop_exit, Qloop_ret, Qloop_pan,
    stepOp, ev, upd_apply, putF, cellsOf, deref, faddrV, mk, abin, abinI, abinS, ibits, aeqb, aun, fldV, idxOf, elems, isPtr, putRef, splice, fillA, rowsA, minV, peqV, elemsA, rowBytes, strOf, Store.get_push, Store.get_set, Store.n_push, Store.n_set,
    Option.map_some, Option.map_none, reduceIte, Nat.reduceEqDiff, Nat.reduceAdd, Nat.reduceLeDiff, Nat.reduceLT, Nat.zero_add, Nat.add_zero, Nat.add_assoc, Nat.add_left_cancel_iff, Nat.left_eq_add, Nat.add_eq_left, Nat.lt_irrefl, Nat.le_refl,
    List.drop_zero, List.drop_succ_cons, List.take_succ_cons, List.take_zero, List.headD_cons, List.length_cons, List.length_nil, List.getElem?_cons_zero, List.getElem?_cons_succ, List.set_cons_zero, List.set_cons_succ, List.map_cons, List.map_nil,
    Bool.not_true, Bool.not_false, Bool.false_eq_true, Bool.true_eq_false, Bool.not_eq_true', Bool.not_eq_false', eq_self, false_imp_iff, true_imp_iff, and_true, true_and, and_false, false_and, or_true, true_or, initFr, fr0_at, Qend, resL, resV1, pack,
    decide_eq_true_eq, decide_eq_false_iff_not, Int.toNat_natCast, Option.some.injEq, exists_eq_left', vc_cond2, vcC2_bool, vcCB_T, vcCB_F, vcCB_dec, decide_true, decide_false]
    intro _ _
    have htl : (r.take n).length = n := by rw [List.length_take]; omega
    have hv := getS_lt (r.take n)
    rw [htl] at hv
    have hp : 256 ^ n ≤ 4294967296 := by
      have : n = 1 ∨ n = 2 ∨ n = 3 ∨ n = 4 := by omega
      rcases this with rfl | rfl | rfl | rfl <;> decide
    refine (c67 (r.take n) (by omega) (by omega)).use ?_
    have hw3 : IntKind.i64.wrap (((2 + n : Nat) : Int) + (getS (r.take n) : Nat)) = ((2 + (n + getS (r.take n)) : Nat) : Int) := by rw [w64 _ (by omega) (by omega)]; push_cast; omega
    rw [headS, hr]
    by_cases hlong : 2 + n + getS (r.take n) > 65536
    · have hlong' : ((2 + (n + getS (r.take n)) : Nat) : Int) > 65536 := by omega
      rw [if_pos hlong]
      simp -implicitDefEqProofs only [hw2, hw3, hlong', vc_region, vc_quiet, vcD_nil, vcD_val2, vcDO_val, vcDO_asks, vcD_eff, vcD_guard2, vcDG_TT, vcDG_FF, vcDG_TF, vcDG_FT, vcDG_und, vcDG_Tdec, vcDG_Fdec, vcDEff, saysAll, pendAll, pendNext, addPend, Says, vc_bad, vc_seq, vc_ret, vc_skip, vc_block, vc_exit, vcGrps_nil, vcGrps_cons, vcGrps_guard2, vcG2_bool, vcG2_und, vcGB_TT, vcGB_FF, vcGB_TF, vcGB_FT, vcGB_Tdec, vcGB_Fdec, vcOps_nil, vcOps_cons, vcOut, KCall_ret, KCall_pan, skipF_nil, skipF_cons, Qseq_normal, Qseq_ret, Qseq_exit, Qseq_pan, Qblk_normal, Qblk_exit, Qblk_ret, Qblk_pan, Qpan_eq, Qcut_normal, Qcut_exit, Qcut_ret, Qcut_pan, Qloop_normal, Qloop_exit, Qloop_ret, Qloop_pan,
    stepOp, ev, upd_apply, putF, cellsOf, deref, faddrV, mk, abin, abinI, abinS, ibits, aeqb, aun, fldV, idxOf, elems, isPtr, putRef, splice, fillA, rowsA, minV, peqV, elemsA, rowBytes, strOf, Store.get_push, Store.get_set, Store.n_push, Store.n_set,
    Option.map_some, Option.map_none, reduceIte, Nat.reduceEqDiff, Nat.reduceAdd, Nat.reduceLeDiff, Nat.reduceLT, Nat.zero_add, Nat.add_zero, Nat.add_assoc, Nat.add_left_cancel_iff, Nat.left_eq_add, Nat.add_eq_left, Nat.lt_irrefl, Nat.le_refl,
    List.drop_zero, List.drop_succ_cons, List.take_succ_cons, List.take_zero, List.headD_cons, List.length_cons, List.length_nil, List.getElem?_cons_zero, List.getElem?_cons_succ, List.set_cons_zero, List.set_cons_succ, List.map_cons, List.map_nil,
    Bool.not_true, Bool.not_false, Bool.false_eq_true, Bool.true_eq_false, Bool.not_eq_true', Bool.not_eq_false', eq_self, false_imp_iff, true_imp_iff, and_true, true_and, and_false, false_and, or_true, true_or, initFr, fr0_at, Qend, resL, resV1, pack,
    decide_eq_true_eq, decide_eq_false_iff_not, Int.toNat_natCast, Option.some.injEq, exists_eq_left', vc_cond2, vcC2_bool, vcCB_T, vcCB_F, vcCB_dec, decide_true, decide_false]
      exact ⟨rfl, hx⟩
    · have hlong' : ¬ ((2 + (n + getS (r.take n)) : Nat) : Int) > 65536 := by omega
      rw [if_neg hlong]
      simp -implicitDefEqProofs only [hw2, hw3, hlong', vc_region, vc_quiet, vcD_nil, vcD_val2, vcDO_val, vcDO_asks, vcD_eff, vcD_guard2, vcDG_TT, vcDG_FF, vcDG_TF, vcDG_FT, vcDG_und, vcDG_Tdec, vcDG_Fdec, vcDEff, saysAll, pendAll, pendNext, addPend, Says, vc_bad, vc_seq, vc_ret, vc_skip, vc_block, vc_exit, vcGrps_nil, vcGrps_cons, vcGrps_guard2, vcG2_bool, vcG2_und, vcGB_TT, vcGB_FF, vcGB_TF, vcGB_FT, vcGB_Tdec, vcGB_Fdec, vcOps_nil, vcOps_cons, vcOut, KCall_ret, KCall_pan, skipF_nil, skipF_cons, Qseq_normal, Qseq_ret, Qseq_exit, Qseq_pan, Qblk_normal, Qblk_exit, Qblk_ret, Qblk_pan, Qpan_eq, Qcut_normal, Qcut_exit, Qcut_ret, Qcut_pan, Qloop_normal, Qloop_exit, Qloop_ret, Qloop_pan,
    stepOp, ev, upd_apply, putF, cellsOf, deref, faddrV, mk, abin, abinI, abinS, ibits, aeqb, aun, fldV, idxOf, elems, isPtr, putRef, splice, fillA, rowsA, minV, peqV, elemsA, rowBytes, strOf, Store.get_push, Store.get_set, Store.n_push, Store.n_set,
    Option.map_some, Option.map_none, reduceIte, Nat.reduceEqDiff, Nat.reduceAdd, Nat.reduceLeDiff, Nat.reduceLT, Nat.zero_add, Nat.add_zero, Nat.add_assoc, Nat.add_left_cancel_iff, Nat.left_eq_add, Nat.add_eq_left, Nat.lt_irrefl, Nat.le_refl,
    List.drop_zero, List.drop_succ_cons, List.take_succ_cons, List.take_zero, List.headD_cons, List.length_cons, List.length_nil, List.getElem?_cons_zero, List.getElem?_cons_succ, List.set_cons_zero, List.set_cons_succ, List.map_cons, List.map_nil,
    Bool.not_true, Bool.not_false, Bool.false_eq_true, Bool.true_eq_false, Bool.not_eq_true', Bool.not_eq_false', eq_self, false_imp_iff, true_imp_iff, and_true, true_and, and_false, false_and, or_true, true_or, initFr, fr0_at, Qend, resL, resV1, pack,
    decide_eq_true_eq, decide_eq_false_iff_not, Int.toNat_natCast, Option.some.injEq, exists_eq_left', vc_cond2, vcC2_bool, vcCB_T, vcCB_F, vcCB_dec, decide_true, decide_false]
      exact ⟨rfl, hx⟩

def frameS (b : List UInt8) : Nat × Nat := ((headS b).1 + (headS b).2.1, (headS b).2.2)
theorem rheadS_lt (b : List UInt8) : (rheadS b).1 ≤ 6 ∧ (rheadS b).2.1 < 4294967296 ∧ (rheadS b).2.2 < 30 ∧ ((rheadS b).2.2 ≠ 0 → (rheadS b).1 = 0 ∧ (rheadS b).2.1 = 0) := by
  match b with
  | [] => simp [rheadS]
  | [c] => simp only [rheadS]; split <;> simp
  | c :: d :: r =>
    simp only [rheadS]
    split
    · simp
    split
    · exact ⟨by simp, by simp only; have := d.toNat_lt; omega, by simp, by simp⟩
    split
    · simp
    split
    · simp
    rename_i h1 h2 h3 h4
    have hv := getS_lt (r.take (d.toNat - 128))
    rw [List.length_take, Nat.min_eq_left (by omega)] at hv
    have hp : 256 ^ (d.toNat - 128) ≤ 4294967296 := by
      have : d.toNat - 128 = 1 ∨ d.toNat - 128 = 2 ∨ d.toNat - 128 = 3 ∨ d.toNat - 128 = 4 := by omega
      rcases this with h | h | h | h <;> rw [h] <;> decide
    exact ⟨by simp only; omega, by simp only; omega, by simp, by simp⟩
theorem headS_lt (b : List UInt8) : (headS b).1 ≤ 6 ∧ (headS b).1 + (headS b).2.1 ≤ 65536 ∧ (headS b).2.2 < 30 ∧ ((headS b).2.2 ≠ 0 → (headS b).1 = 0 ∧ (headS b).2.1 = 0) := by
  obtain ⟨h1, h2, h3, h4⟩ := rheadS_lt b
  unfold headS
  split
  · simp
  · exact ⟨h1, by omega, h3, h4⟩
theorem c19 (b : List UInt8) : Pure prog 19 [.str b] (.tup [.int .i64 ((frameS b).1 : Nat), .int .i64 ((frameS b).2 : Nat)]) := by
  refine Pure.of (fun _ _ => by simp only [nm, nmL, and_self]) fun S => acalls_of_vc low19 (by simp) ?_
  obtain ⟨h1, h2, _⟩ := headS_lt b
  simp -implicitDefEqProofs only [B19, vc_region, vc_quiet, vcD_nil, vcD_val2, vcDO_val, vcDO_asks, vcD_eff, vcD_guard2, vcDG_TT, vcDG_FF, vcDG_TF, vcDG_FT, vcDG_und, vcDG_Tdec, vcDG_Fdec, vcDEff, saysAll, pendAll, pendNext, addPend, Says, vc_bad, vc_seq, vc_ret, vc_skip, vc_block, vc_exit, vcGrps_nil, vcGrps_cons, vcGrps_guard2, vcG2_bool, vcG2_und, vcGB_TT, vcGB_FF, vcGB_TF, vcGB_FT, vcGB_Tdec, vcGB_Fdec, vcOps_nil, vcOps_cons, vcOut, KCall_ret, KCall_pan, skipF_nil, skipF_cons, Qseq_normal, Qseq_ret, Qseq_exit, Qseq_pan, Qblk_normal, Qblk_exit, Qblk_ret, Qblk_pan, Qpan_eq, Qcut_normal, Qcut_exit, Qcut_ret, Qcut_pan, Qloop_normal, Qloop_exit, Qloop_ret, Qloop_pan,
    stepOp, ev, upd_apply, putF, cellsOf, deref, faddrV, mk, abin, abinI, abinS, ibits, aeqb, aun, fldV, idxOf, elems, isPtr, putRef, splice, fillA, rowsA, minV, peqV, elemsA, rowBytes, strOf, Store.get_push, Store.get_set, Store.n_push, Store.n_set,
    Option.map_some, Option.map_none, reduceIte, Nat.reduceEqDiff, Nat.reduceAdd, Nat.reduceLeDiff, Nat.reduceLT, Nat.zero_add, Nat.add_zero, Nat.add_assoc, Nat.add_left_cancel_iff, Nat.left_eq_add, Nat.add_eq_left, Nat.lt_irrefl, Nat.le_refl,
    List.drop_zero, List.drop_succ_cons, List.take_succ_cons, List.take_zero, List.headD_cons, List.length_cons, List.length_nil, List.getElem?_cons_zero, List.getElem?_cons_succ, List.set_cons_zero, List.set_cons_succ, List.map_cons, List.map_nil,
    Bool.not_true, Bool.not_false, Bool.false_eq_true, Bool.true_eq_false, Bool.not_eq_true', Bool.not_eq_false', eq_self, false_imp_iff, true_imp_iff, and_true, true_and, and_false, false_and, or_true, true_or, initFr, fr0_at, Qend, resL, resV1, pack,
    decide_eq_true_eq, decide_eq_false_iff_not, Int.toNat_natCast, Option.some.injEq, exists_eq_left', vc_cond2, vcC2_bool, vcCB_T, vcCB_F, vcCB_dec, decide_true, decide_false]
  refine (c52 b).use ?_
  have hw : IntKind.i64.wrap (((headS b).1 : Int) + ((headS b).2.1 : Nat)) = (((headS b).1 + (headS b).2.1 : Nat) : Int) := by rw [w64 _ (by omega) (by omega)]; push_cast; rfl
  simp -implicitDefEqProofs only [encH, hw, vc_region, vc_quiet, vcD_nil, vcD_val2, vcDO_val, vcDO_asks, vcD_eff, vcD_guard2, vcDG_TT, vcDG_FF, vcDG_TF, vcDG_FT, vcDG_und, vcDG_Tdec, vcDG_Fdec, vcDEff, saysAll, pendAll, pendNext, addPend, Says, vc_bad, vc_seq, vc_ret, vc_skip, vc_block, vc_exit, vcGrps_nil, vcGrps_cons, vcGrps_guard2, vcG2_bool, vcG2_und, vcGB_TT, vcGB_FF, vcGB_TF, vcGB_FT, vcGB_Tdec, vcGB_Fdec, vcOps_nil, vcOps_cons, vcOut, KCall_ret, KCall_pan, skipF_nil, skipF_cons, Qseq_normal, Qseq_ret, Qseq_exit, Qseq_pan, Qblk_normal, Qblk_exit, Qblk_ret, Qblk_pan, Qpan_eq, Qcut_normal, Qcut_exit, Qcut_ret, Qcut_pan, Qloop_normal, Qloop_exit, Qloop_ret, Qloop_pan,
    stepOp, ev, upd_apply, putF, cellsOf, deref, faddrV, mk, abin, abinI, abinS, ibits, aeqb, aun, fldV, idxOf, elems, isPtr, putRef, splice, fillA, rowsA, minV, peqV, elemsA, rowBytes, strOf, Store.get_push, Store.get_set, Store.n_push, Store.n_set,
    Option.map_some, Option.map_none, reduceIte, Nat.reduceEqDiff, Nat.reduceAdd, Nat.reduceLeDiff, Nat.reduceLT, Nat.zero_add, Nat.add_zero, Nat.add_assoc, Nat.add_left_cancel_iff, Nat.left_eq_add, Nat.add_eq_left, Nat.lt_irrefl, Nat.le_refl,
    List.drop_zero, List.drop_succ_cons, List.take_succ_cons, List.take_zero, List.headD_cons, List.length_cons, List.length_nil, List.getElem?_cons_zero, List.getElem?_cons_succ, List.set_cons_zero, List.set_cons_succ, List.map_cons, List.map_nil,
    Bool.not_true, Bool.not_false, Bool.false_eq_true, Bool.true_eq_false, Bool.not_eq_true', Bool.not_eq_false', eq_self, false_imp_iff, true_imp_iff, and_true, true_and, and_false, false_and, or_true, true_or, initFr, fr0_at, Qend, resL, resV1, pack,
    decide_eq_true_eq, decide_eq_false_iff_not, Int.toNat_natCast, Option.some.injEq, exists_eq_left', vc_cond2, vcC2_bool, vcCB_T, vcCB_F, vcCB_dec, decide_true, decide_false]
  exact ⟨rfl, Ext.refl S⟩

/-! ## The first call -/
theorem wE : writeS (seqE (copyEs [strE 2 (sgn 5), strE 4 [97, 98]])) = ([48, 7, 2, 1, 5, 4, 2, 97, 98], 0) := by decide +kernel
theorem fE : frameS [48, 7] = (9, 0) := by decide +kernel
theorem c13 : Pure prog 13 [] (.bool true) := by
  refine Pure.of (fun _ _ => by simp only [nm]) fun S => acalls_of_vc low13 (by simp) ?_
  simp -implicitDefEqProofs only [B13, vc_region, vc_quiet, vcD_nil, vcD_val2, vcDO_val, vcDO_asks, vcD_eff, vcD_guard2, vcDG_TT, vcDG_FF, vcDG_TF, vcDG_FT, vcDG_und, vcDG_Tdec, vcDG_Fdec, vcDEff, saysAll, pendAll, pendNext, addPend, Says, vc_bad, vc_seq, vc_ret, vc_skip, vc_block, vc_exit, vcGrps_nil, vcGrps_cons, vcGrps_guard2, vcG2_bool, vcG2_und, vcGB_TT, vcGB_FF, vcGB_TF, vcGB_FT, vcGB_Tdec, vcGB_Fdec, vcOps_nil, vcOps_cons, vcOut, KCall_ret, KCall_pan, skipF_nil, skipF_cons, Qseq_normal, Qseq_ret, Qseq_exit, Qseq_pan, Qblk_normal, Qblk_exit, Qblk_ret, Qblk_pan, Qpan_eq, Qcut_normal, Qcut_exit, Qcut_ret, Qcut_pan, Qloop_normal, Qloop_exit, Qloop_ret, Qloop_pan,
    stepOp, ev, upd_apply, putF, cellsOf, deref, faddrV, mk, abin, abinI, abinS, ibits, aeqb, aun, fldV, idxOf, elems, isPtr, putRef, splice, fillA, rowsA, minV, peqV, elemsA, rowBytes, strOf, Store.get_push, Store.get_set, Store.n_push, Store.n_set,
    Option.map_some, Option.map_none, reduceIte, Nat.reduceEqDiff, Nat.reduceAdd, Nat.reduceLeDiff, Nat.reduceLT, Nat.zero_add, Nat.add_zero, Nat.add_assoc, Nat.add_left_cancel_iff, Nat.left_eq_add, Nat.add_eq_left, Nat.lt_irrefl, Nat.le_refl,
    List.drop_zero, List.drop_succ_cons, List.take_succ_cons, List.take_zero, List.headD_cons, List.length_cons, List.length_nil, List.getElem?_cons_zero, List.getElem?_cons_succ, List.set_cons_zero, List.set_cons_succ, List.map_cons, List.map_nil,
    Bool.not_true, Bool.not_false, Bool.false_eq_true, Bool.true_eq_false, Bool.not_eq_true', Bool.not_eq_false', eq_self, false_imp_iff, true_imp_iff, and_true, true_and, and_false, false_and, or_true, true_or, initFr, fr0_at, Qend, resL, resV1, pack,
    decide_eq_true_eq, decide_eq_false_iff_not, Int.toNat_natCast, Option.some.injEq, exists_eq_left', vc_cond2, vcC2_bool, vcCB_T, vcCB_F, vcCB_dec, decide_true, decide_false]
  refine (c20 2 5 ⟨by omega, by omega⟩).use ?_
  simp -implicitDefEqProofs only [vc_region, vc_quiet, vcD_nil, vcD_val2, vcDO_val, vcDO_asks, vcD_eff, vcD_guard2, vcDG_TT, vcDG_FF, vcDG_TF, vcDG_FT, vcDG_und, vcDG_Tdec, vcDG_Fdec, vcDEff, saysAll, pendAll, pendNext, addPend, Says, vc_bad, vc_seq, vc_ret, vc_skip, vc_block, vc_exit, vcGrps_nil, vcGrps_cons, vcGrps_guard2, vcG2_bool, vcG2_und, vcGB_TT, vcGB_FF, vcGB_TF, vcGB_FT, vcGB_Tdec, vcGB_Fdec, vcOps_nil, vcOps_cons, vcOut, KCall_ret, KCall_pan, skipF_nil, skipF_cons, Qseq_normal, Qseq_ret, Qseq_exit, Qseq_pan, Qblk_normal, Qblk_exit, Qblk_ret, Qblk_pan, Qpan_eq, Qcut_normal, Qcut_exit, Qcut_ret, Qcut_pan, Qloop_normal, Qloop_exit, Qloop_ret, Qloop_pan,
    stepOp, ev, upd_apply, putF, cellsOf, deref, faddrV, mk, abin, abinI, abinS, ibits, aeqb, aun, fldV, idxOf, elems, isPtr, putRef, splice, fillA, rowsA, minV, peqV, elemsA, rowBytes, strOf, Store.get_push, Store.get_set, Store.n_push, Store.n_set,
    Option.map_some, Option.map_none, reduceIte, Nat.reduceEqDiff, Nat.reduceAdd, Nat.reduceLeDiff, Nat.reduceLT, Nat.zero_add, Nat.add_zero, Nat.add_assoc, Nat.add_left_cancel_iff, Nat.left_eq_add, Nat.add_eq_left, Nat.lt_irrefl, Nat.le_refl,
    List.drop_zero, List.drop_succ_cons, List.take_succ_cons, List.take_zero, List.headD_cons, List.length_cons, List.length_nil, List.getElem?_cons_zero, List.getElem?_cons_succ, List.set_cons_zero, List.set_cons_succ, List.map_cons, List.map_nil,
    Bool.not_true, Bool.not_false, Bool.false_eq_true, Bool.true_eq_false, Bool.not_eq_true', Bool.not_eq_false', eq_self, false_imp_iff, true_imp_iff, and_true, true_and, and_false, false_and, or_true, true_or, initFr, fr0_at, Qend, resL, resV1, pack,
    decide_eq_true_eq, decide_eq_false_iff_not, Int.toNat_natCast, Option.some.injEq, exists_eq_left', vc_cond2, vcC2_bool, vcCB_T, vcCB_F, vcCB_dec, decide_true, decide_false]
  refine (c21 4 [97, 98]).use ?_
  simp -implicitDefEqProofs only [encE_length, vc_region, vc_quiet, vcD_nil, vcD_val2, vcDO_val, vcDO_asks, vcD_eff, vcD_guard2, vcDG_TT, vcDG_FF, vcDG_TF, vcDG_FT, vcDG_und, vcDG_Tdec, vcDG_Fdec, vcDEff, saysAll, pendAll, pendNext, addPend, Says, vc_bad, vc_seq, vc_ret, vc_skip, vc_block, vc_exit, vcGrps_nil, vcGrps_cons, vcGrps_guard2, vcG2_bool, vcG2_und, vcGB_TT, vcGB_FF, vcGB_TF, vcGB_FT, vcGB_Tdec, vcGB_Fdec, vcOps_nil, vcOps_cons, vcOut, KCall_ret, KCall_pan, skipF_nil, skipF_cons, Qseq_normal, Qseq_ret, Qseq_exit, Qseq_pan, Qblk_normal, Qblk_exit, Qblk_ret, Qblk_pan, Qpan_eq, Qcut_normal, Qcut_exit, Qcut_ret, Qcut_pan, Qloop_normal, Qloop_exit, Qloop_ret, Qloop_pan,
    stepOp, ev, upd_apply, putF, cellsOf, deref, faddrV, mk, abin, abinI, abinS, ibits, aeqb, aun, fldV, idxOf, elems, isPtr, putRef, splice, fillA, rowsA, minV, peqV, elemsA, rowBytes, strOf, Store.get_push, Store.get_set, Store.n_push, Store.n_set,
    Option.map_some, Option.map_none, reduceIte, Nat.reduceEqDiff, Nat.reduceAdd, Nat.reduceLeDiff, Nat.reduceLT, Nat.zero_add, Nat.add_zero, Nat.add_assoc, Nat.add_left_cancel_iff, Nat.left_eq_add, Nat.add_eq_left, Nat.lt_irrefl, Nat.le_refl,
    List.drop_zero, List.drop_succ_cons, List.take_succ_cons, List.take_zero, List.headD_cons, List.length_cons, List.length_nil, List.getElem?_cons_zero, List.getElem?_cons_succ, List.set_cons_zero, List.set_cons_succ, List.map_cons, List.map_nil,
    Bool.not_true, Bool.not_false, Bool.false_eq_true, Bool.true_eq_false, Bool.not_eq_true', Bool.not_eq_false', eq_self, false_imp_iff, true_imp_iff, and_true, true_and, and_false, false_and, or_true, true_or, initFr, fr0_at, Qend, resL, resV1, pack,
    decide_eq_true_eq, decide_eq_false_iff_not, Int.toNat_natCast, Option.some.injEq, exists_eq_left', vc_cond2, vcC2_bool, vcCB_T, vcCB_F, vcCB_dec, decide_true, decide_false]
  have hs : sgn 5 = [5] := by decide +kernel
  have hks : ∀ k ∈ [strE 2 (sgn 5), strE 4 [97, 98]], okE k := by
    intro k hk
    simp only [List.mem_cons, List.not_mem_nil, or_false] at hk
    rw [hs] at hk
    rcases hk with rfl | rfl <;> simp [strE, okE, okEs, i64ok, maxB]
  have h23 := c23 [strE 2 (sgn 5), strE 4 [97, 98]] [] (by decide) hks
  simp only [lstV, encEs, List.append_nil, List.length_cons, List.length_nil] at h23
  refine h23.use ?_
  simp -implicitDefEqProofs only [vc_region, vc_quiet, vcD_nil, vcD_val2, vcDO_val, vcDO_asks, vcD_eff, vcD_guard2, vcDG_TT, vcDG_FF, vcDG_TF, vcDG_FT, vcDG_und, vcDG_Tdec, vcDG_Fdec, vcDEff, saysAll, pendAll, pendNext, addPend, Says, vc_bad, vc_seq, vc_ret, vc_skip, vc_block, vc_exit, vcGrps_nil, vcGrps_cons, vcGrps_guard2, vcG2_bool, vcG2_und, vcGB_TT, vcGB_FF, vcGB_TF, vcGB_FT, vcGB_Tdec, vcGB_Fdec, vcOps_nil, vcOps_cons, vcOut, KCall_ret, KCall_pan, skipF_nil, skipF_cons, Qseq_normal, Qseq_ret, Qseq_exit, Qseq_pan, Qblk_normal, Qblk_exit, Qblk_ret, Qblk_pan, Qpan_eq, Qcut_normal, Qcut_exit, Qcut_ret, Qcut_pan, Qloop_normal, Qloop_exit, Qloop_ret, Qloop_pan,
    stepOp, ev, upd_apply, putF, cellsOf, deref, faddrV, mk, abin, abinI, abinS, ibits, aeqb, aun, fldV, idxOf, elems, isPtr, putRef, splice, fillA, rowsA, minV, peqV, elemsA, rowBytes, strOf, Store.get_push, Store.get_set, Store.n_push, Store.n_set,
    Option.map_some, Option.map_none, reduceIte, Nat.reduceEqDiff, Nat.reduceAdd, Nat.reduceLeDiff, Nat.reduceLT, Nat.zero_add, Nat.add_zero, Nat.add_assoc, Nat.add_left_cancel_iff, Nat.left_eq_add, Nat.add_eq_left, Nat.lt_irrefl, Nat.le_refl,
    List.drop_zero, List.drop_succ_cons, List.take_succ_cons, List.take_zero, List.headD_cons, List.length_cons, List.length_nil, List.getElem?_cons_zero, List.getElem?_cons_succ, List.set_cons_zero, List.set_cons_succ, List.map_cons, List.map_nil,
    Bool.not_true, Bool.not_false, Bool.false_eq_true, Bool.true_eq_false, Bool.not_eq_true', Bool.not_eq_false', eq_self, false_imp_iff, true_imp_iff, and_true, true_and, and_false, false_and, or_true, true_or, initFr, fr0_at, Qend, resL, resV1, pack,
    decide_eq_true_eq, decide_eq_false_iff_not, Int.toNat_natCast, Option.some.injEq, exists_eq_left', vc_cond2, vcC2_bool, vcCB_T, vcCB_F, vcCB_dec, decide_true, decide_false]
  have hok : okE (seqE (copyEs [strE 2 (sgn 5), strE 4 [97, 98]])) := by
    rw [hs]; simp [seqE, copyEs, copyE, strE, okE, okEs, i64ok, maxB]
  refine (c15 _ hok).use ?_
  rw [wE]
  simp -implicitDefEqProofs only [vc_region, vc_quiet, vcD_nil, vcD_val2, vcDO_val, vcDO_asks, vcD_eff, vcD_guard2, vcDG_TT, vcDG_FF, vcDG_TF, vcDG_FT, vcDG_und, vcDG_Tdec, vcDG_Fdec, vcDEff, saysAll, pendAll, pendNext, addPend, Says, vc_bad, vc_seq, vc_ret, vc_skip, vc_block, vc_exit, vcGrps_nil, vcGrps_cons, vcGrps_guard2, vcG2_bool, vcG2_und, vcGB_TT, vcGB_FF, vcGB_TF, vcGB_FT, vcGB_Tdec, vcGB_Fdec, vcOps_nil, vcOps_cons, vcOut, KCall_ret, KCall_pan, skipF_nil, skipF_cons, Qseq_normal, Qseq_ret, Qseq_exit, Qseq_pan, Qblk_normal, Qblk_exit, Qblk_ret, Qblk_pan, Qpan_eq, Qcut_normal, Qcut_exit, Qcut_ret, Qcut_pan, Qloop_normal, Qloop_exit, Qloop_ret, Qloop_pan,
    stepOp, ev, upd_apply, putF, cellsOf, deref, faddrV, mk, abin, abinI, abinS, ibits, aeqb, aun, fldV, idxOf, elems, isPtr, putRef, splice, fillA, rowsA, minV, peqV, elemsA, rowBytes, strOf, Store.get_push, Store.get_set, Store.n_push, Store.n_set,
    Option.map_some, Option.map_none, reduceIte, Nat.reduceEqDiff, Nat.reduceAdd, Nat.reduceLeDiff, Nat.reduceLT, Nat.zero_add, Nat.add_zero, Nat.add_assoc, Nat.add_left_cancel_iff, Nat.left_eq_add, Nat.add_eq_left, Nat.lt_irrefl, Nat.le_refl,
    List.drop_zero, List.drop_succ_cons, List.take_succ_cons, List.take_zero, List.headD_cons, List.length_cons, List.length_nil, List.getElem?_cons_zero, List.getElem?_cons_succ, List.set_cons_zero, List.set_cons_succ, List.map_cons, List.map_nil,
    Bool.not_true, Bool.not_false, Bool.false_eq_true, Bool.true_eq_false, Bool.not_eq_true', Bool.not_eq_false', eq_self, false_imp_iff, true_imp_iff, and_true, true_and, and_false, false_and, or_true, true_or, initFr, fr0_at, Qend, resL, resV1, pack,
    decide_eq_true_eq, decide_eq_false_iff_not, Int.toNat_natCast, Option.some.injEq, exists_eq_left', vc_cond2, vcC2_bool, vcCB_T, vcCB_F, vcCB_dec, decide_true, decide_false]
  refine (c19 [48, 7]).use ?_
  rw [fE]
  simp -implicitDefEqProofs only [vc_region, vc_quiet, vcD_nil, vcD_val2, vcDO_val, vcDO_asks, vcD_eff, vcD_guard2, vcDG_TT, vcDG_FF, vcDG_TF, vcDG_FT, vcDG_und, vcDG_Tdec, vcDG_Fdec, vcDEff, saysAll, pendAll, pendNext, addPend, Says, vc_bad, vc_seq, vc_ret, vc_skip, vc_block, vc_exit, vcGrps_nil, vcGrps_cons, vcGrps_guard2, vcG2_bool, vcG2_und, vcGB_TT, vcGB_FF, vcGB_TF, vcGB_FT, vcGB_Tdec, vcGB_Fdec, vcOps_nil, vcOps_cons, vcOut, KCall_ret, KCall_pan, skipF_nil, skipF_cons, Qseq_normal, Qseq_ret, Qseq_exit, Qseq_pan, Qblk_normal, Qblk_exit, Qblk_ret, Qblk_pan, Qpan_eq, Qcut_normal, Qcut_exit, Qcut_ret, Qcut_pan, Qloop_normal, Qloop_exit, Qloop_ret, Qloop_pan,
    stepOp, ev, upd_apply, putF, cellsOf, deref, faddrV, mk, abin, abinI, abinS, ibits, aeqb, aun, fldV, idxOf, elems, isPtr, putRef, splice, fillA, rowsA, minV, peqV, elemsA, rowBytes, strOf, Store.get_push, Store.get_set, Store.n_push, Store.n_set,
    Option.map_some, Option.map_none, reduceIte, Nat.reduceEqDiff, Nat.reduceAdd, Nat.reduceLeDiff, Nat.reduceLT, Nat.zero_add, Nat.add_zero, Nat.add_assoc, Nat.add_left_cancel_iff, Nat.left_eq_add, Nat.add_eq_left, Nat.lt_irrefl, Nat.le_refl,
    List.drop_zero, List.drop_succ_cons, List.take_succ_cons, List.take_zero, List.headD_cons, List.length_cons, List.length_nil, List.getElem?_cons_zero, List.getElem?_cons_succ, List.set_cons_zero, List.set_cons_succ, List.map_cons, List.map_nil,
    Bool.not_true, Bool.not_false, Bool.false_eq_true, Bool.true_eq_false, Bool.not_eq_true', Bool.not_eq_false', eq_self, false_imp_iff, true_imp_iff, and_true, true_and, and_false, false_and, or_true, true_or, initFr, fr0_at, Qend, resL, resV1, pack,
    decide_eq_true_eq, decide_eq_false_iff_not, Int.toNat_natCast, Option.some.injEq, exists_eq_left', vc_cond2, vcC2_bool, vcCB_T, vcCB_F, vcCB_dec, decide_true, decide_false]
  exact ⟨fun _ => ⟨rfl, Ext.refl S⟩, fun h => absurd rfl h⟩
end Go.Proofs.Ytmlllckecalaaaa.Eng

namespace Go.Proofs.Ytmlllckecalaaaa.Eng
open Go Go.Proofs.Try

/-! ## What is lent is told alike -/
mutual
theorem each_lent (p : Elem → Bool) (hp : ∀ e, p (lentS e) = p e) : ∀ (e : Elem) (w : Int), eachS p (lentS e) w = eachS p e w
  | .mk c t k b ks ext, w => by
    have h := hp (.mk c t k b ks ext)
    simp only [lentS] at h ⊢
    simp only [eachS, h, eachs_lent p hp ks (w + 1)]
theorem eachs_lent (p : Elem → Bool) (hp : ∀ e, p (lentS e) = p e) : ∀ (ks : List Elem) (w : Int), eachSs p (lentSs ks) w = eachSs p ks w
  | [], w => rfl
  | k :: ks, w => by simp only [lentSs, eachSs, each_lent p hp k w, eachs_lent p hp ks w]
end
theorem tag_lent (e : Elem) : tagOk (lentS e) = tagOk e := by cases e; rfl
theorem form_lent (e : Elem) : formOk (lentS e) = formOk e := by
  cases e with
  | mk c t k b ks ext =>
    simp only [lentS, formOk, Elem.cons, Elem.bytes, Elem.kids, lentSs_length]
    cases k <;> rfl
mutual
theorem deep_lent : ∀ (e : Elem) (w : Int), deepS (lentS e) w = deepS e w
  | .mk c t k b ks ext, w => by simp only [lentS, deepS, deeps_lent ks (w + 1)]
theorem deeps_lent : ∀ (ks : List Elem) (w : Int), deepSs (lentSs ks) w = deepSs ks w
  | [], w => rfl
  | k :: ks, w => by simp only [lentSs, deepSs, deep_lent k w, deeps_lent ks w]
end
mutual
theorem size_lent : ∀ (e : Elem), sizeS (lentS e) = sizeS e
  | .mk c t k b ks ext => by simp only [lentS, sizeS, sizes_lent ks]
theorem sizes_lent : ∀ (ks : List Elem) (n : Nat), sizeSs (lentSs ks) n = sizeSs ks n
  | [], n => rfl
  | k :: ks, n => by simp only [lentSs, sizeSs, size_lent k, sizes_lent ks]
end
theorem sum_lent : ∀ (ks : List Elem), sumS (lentSs ks) = sumS ks
  | [] => rfl
  | k :: ks => by simp only [lentSs, sumS, size_lent k, sum_lent ks]
mutual
theorem put_lent : ∀ (e : Elem), putS (lentS e) = putS e
  | .mk c t k b ks ext => by simp only [lentS, putS, sum_lent ks, puts_lent ks, firstS, Elem.cls, Elem.tag, Elem.cons]; rfl
theorem puts_lent : ∀ (ks : List Elem), putSs (lentSs ks) = putSs ks
  | [] => rfl
  | k :: ks => by simp only [lentSs, putSs, put_lent k, puts_lent ks]
end
theorem write_lent (e : Elem) : writeS (lentS e) = writeS e := by
  simp only [writeS, each_lent tagOk tag_lent, each_lent formOk form_lent, deep_lent, size_lent, put_lent]
mutual
theorem same_lent : ∀ (e : Elem), sameS (lentS e) e = true
  | .mk c t k b ks ext => by simp only [lentS, sameS, Elem.cls, Elem.tag, Elem.cons, Elem.bytes, Elem.kids, sames_lent ks, decide_true, Bool.and_true]
theorem sames_lent : ∀ (ks : List Elem), sameSs (lentSs ks) ks = true
  | [] => rfl
  | k :: ks => by simp only [lentSs, sameSs, same_lent k, sames_lent ks, Bool.and_true]
end
mutual
theorem ok_lent : ∀ (e : Elem), okE e → okE (lentS e)
  | .mk c t k b ks ext, h => by simp only [lentS, okE, lentSs_length] at h ⊢; exact ⟨h.1, h.2.1, h.2.2.1, h.2.2.2.1, oks_lent ks h.2.2.2.2⟩
theorem oks_lent : ∀ (ks : List Elem), okEs ks → okEs (lentSs ks)
  | [], _ => by simp only [lentSs, okEs]
  | k :: ks, h => by simp only [lentSs, okEs] at h ⊢; exact ⟨ok_lent k h.1, oks_lent ks h.2⟩
end

theorem c3 (e : Elem) (hok : okE e) : Pure prog 3 [.agg (encE e)] (.bool true) := by
  refine Pure.of (fun _ _ => by simp only [nm]) fun S => acalls_of_vc low3 (by simp) ?_
  have hx := (Ext.refl S).push
  simp -implicitDefEqProofs only [B3, encE_length, encE_take5, vc_region, vc_quiet, vcD_nil, vcD_val2, vcDO_val, vcDO_asks, vcD_eff, vcD_guard2, vcDG_TT, vcDG_FF, vcDG_TF, vcDG_FT, vcDG_und, vcDG_Tdec, vcDG_Fdec, vcDEff, saysAll, pendAll, pendNext, addPend, Says, vc_bad, vc_seq, vc_ret, vc_skip, vc_block, vc_exit, vcGrps_nil, vcGrps_cons, vcGrps_guard2, vcG2_bool, vcG2_und, vcGB_TT, vcGB_FF, vcGB_TF, vcGB_FT, vcGB_Tdec, vcGB_Fdec, vcOps_nil, vcOps_cons, vcOut, KCall_ret, KCall_pan, skipF_nil, skipF_cons, Qseq_normal, Qseq_ret, Qseq_exit, Qseq_pan, Qblk_normal, Qblk_exit, Qblk_ret, Qblk_pan, Qpan_eq, Qcut_normal, Qcut_exit, Qcut_ret, Qcut_pan, Qloop_normal, Qloop_exit, Qloop_ret, Qloop_pan,
    stepOp, ev, upd_apply, putF, cellsOf, deref, faddrV, mk, abin, abinI, abinS, ibits, aeqb, aun, fldV, idxOf, elems, isPtr, putRef, splice, fillA, rowsA, minV, peqV, elemsA, rowBytes, strOf, Store.get_push, Store.get_set, Store.n_push, Store.n_set,
    Option.map_some, Option.map_none, reduceIte, Nat.reduceEqDiff, Nat.reduceAdd, Nat.reduceLeDiff, Nat.reduceLT, Nat.zero_add, Nat.add_zero, Nat.add_assoc, Nat.add_left_cancel_iff, Nat.left_eq_add, Nat.add_eq_left, Nat.lt_irrefl, Nat.le_refl,
    List.drop_zero, List.drop_succ_cons, List.take_succ_cons, List.take_zero, List.headD_cons, List.length_cons, List.length_nil, List.getElem?_cons_zero, List.getElem?_cons_succ, List.set_cons_zero, List.set_cons_succ, List.map_cons, List.map_nil,
    Bool.not_true, Bool.not_false, Bool.false_eq_true, Bool.true_eq_false, Bool.not_eq_true', Bool.not_eq_false', eq_self, false_imp_iff, true_imp_iff, and_true, true_and, and_false, false_and, or_true, true_or, initFr, fr0_at, Qend, resL, resV1, pack,
    decide_eq_true_eq, decide_eq_false_iff_not, Int.toNat_natCast, Option.some.injEq, exists_eq_left', vc_cond2, vcC2_bool, vcCB_T, vcCB_F, vcCB_dec, decide_true, decide_false]
  refine (c12 e).use ?_
  simp -implicitDefEqProofs only [encE_length, encE_take5, vc_region, vc_quiet, vcD_nil, vcD_val2, vcDO_val, vcDO_asks, vcD_eff, vcD_guard2, vcDG_TT, vcDG_FF, vcDG_TF, vcDG_FT, vcDG_und, vcDG_Tdec, vcDG_Fdec, vcDEff, saysAll, pendAll, pendNext, addPend, Says, vc_bad, vc_seq, vc_ret, vc_skip, vc_block, vc_exit, vcGrps_nil, vcGrps_cons, vcGrps_guard2, vcG2_bool, vcG2_und, vcGB_TT, vcGB_FF, vcGB_TF, vcGB_FT, vcGB_Tdec, vcGB_Fdec, vcOps_nil, vcOps_cons, vcOut, KCall_ret, KCall_pan, skipF_nil, skipF_cons, Qseq_normal, Qseq_ret, Qseq_exit, Qseq_pan, Qblk_normal, Qblk_exit, Qblk_ret, Qblk_pan, Qpan_eq, Qcut_normal, Qcut_exit, Qcut_ret, Qcut_pan, Qloop_normal, Qloop_exit, Qloop_ret, Qloop_pan,
    stepOp, ev, upd_apply, putF, cellsOf, deref, faddrV, mk, abin, abinI, abinS, ibits, aeqb, aun, fldV, idxOf, elems, isPtr, putRef, splice, fillA, rowsA, minV, peqV, elemsA, rowBytes, strOf, Store.get_push, Store.get_set, Store.n_push, Store.n_set,
    Option.map_some, Option.map_none, reduceIte, Nat.reduceEqDiff, Nat.reduceAdd, Nat.reduceLeDiff, Nat.reduceLT, Nat.zero_add, Nat.add_zero, Nat.add_assoc, Nat.add_left_cancel_iff, Nat.left_eq_add, Nat.add_eq_left, Nat.lt_irrefl, Nat.le_refl,
    List.drop_zero, List.drop_succ_cons, List.take_succ_cons, List.take_zero, List.headD_cons, List.length_cons, List.length_nil, List.getElem?_cons_zero, List.getElem?_cons_succ, List.set_cons_zero, List.set_cons_succ, List.map_cons, List.map_nil,
    Bool.not_true, Bool.not_false, Bool.false_eq_true, Bool.true_eq_false, Bool.not_eq_true', Bool.not_eq_false', eq_self, false_imp_iff, true_imp_iff, and_true, true_and, and_false, false_and, or_true, true_or, initFr, fr0_at, Qend, resL, resV1, pack,
    decide_eq_true_eq, decide_eq_false_iff_not, Int.toNat_natCast, Option.some.injEq, exists_eq_left', vc_cond2, vcC2_bool, vcCB_T, vcCB_F, vcCB_dec, decide_true, decide_false]
  refine ⟨fun _ => ?_, fun _ => ?_⟩
  · refine c13.use ?_
    simp -implicitDefEqProofs only [vc_region, vc_quiet, vcD_nil, vcD_val2, vcDO_val, vcDO_asks, vcD_eff, vcD_guard2, vcDG_TT, vcDG_FF, vcDG_TF, vcDG_FT, vcDG_und, vcDG_Tdec, vcDG_Fdec, vcDEff, saysAll, pendAll, pendNext, addPend, Says, vc_bad, vc_seq, vc_ret, vc_skip, vc_block, vc_exit, vcGrps_nil, vcGrps_cons, vcGrps_guard2, vcG2_bool, vcG2_und, vcGB_TT, vcGB_FF, vcGB_TF, vcGB_FT, vcGB_Tdec, vcGB_Fdec, vcOps_nil, vcOps_cons, vcOut, KCall_ret, KCall_pan, skipF_nil, skipF_cons, Qseq_normal, Qseq_ret, Qseq_exit, Qseq_pan, Qblk_normal, Qblk_exit, Qblk_ret, Qblk_pan, Qpan_eq, Qcut_normal, Qcut_exit, Qcut_ret, Qcut_pan, Qloop_normal, Qloop_exit, Qloop_ret, Qloop_pan,
    stepOp, ev, upd_apply, putF, cellsOf, deref, faddrV, mk, abin, abinI, abinS, ibits, aeqb, aun, fldV, idxOf, elems, isPtr, putRef, splice, fillA, rowsA, minV, peqV, elemsA, rowBytes, strOf, Store.get_push, Store.get_set, Store.n_push, Store.n_set,
    Option.map_some, Option.map_none, reduceIte, Nat.reduceEqDiff, Nat.reduceAdd, Nat.reduceLeDiff, Nat.reduceLT, Nat.zero_add, Nat.add_zero, Nat.add_assoc, Nat.add_left_cancel_iff, Nat.left_eq_add, Nat.add_eq_left, Nat.lt_irrefl, Nat.le_refl,
    List.drop_zero, List.drop_succ_cons, List.take_succ_cons, List.take_zero, List.headD_cons, List.length_cons, List.length_nil, List.getElem?_cons_zero, List.getElem?_cons_succ, List.set_cons_zero, List.set_cons_succ, List.map_cons, List.map_nil,
    Bool.not_true, Bool.not_false, Bool.false_eq_true, Bool.true_eq_false, Bool.not_eq_true', Bool.not_eq_false', eq_self, false_imp_iff, true_imp_iff, and_true, true_and, and_false, false_and, or_true, true_or, initFr, fr0_at, Qend, resL, resV1, pack,
    decide_eq_true_eq, decide_eq_false_iff_not, Int.toNat_natCast, Option.some.injEq, exists_eq_left', vc_cond2, vcC2_bool, vcCB_T, vcCB_F, vcCB_dec, decide_true, decide_false]
    exact hx _
  refine (c14 e hok).use ?_
  simp -implicitDefEqProofs only [encE_length, encE_take5, splice_encE, vc_region, vc_quiet, vcD_nil, vcD_val2, vcDO_val, vcDO_asks, vcD_eff, vcD_guard2, vcDG_TT, vcDG_FF, vcDG_TF, vcDG_FT, vcDG_und, vcDG_Tdec, vcDG_Fdec, vcDEff, saysAll, pendAll, pendNext, addPend, Says, vc_bad, vc_seq, vc_ret, vc_skip, vc_block, vc_exit, vcGrps_nil, vcGrps_cons, vcGrps_guard2, vcG2_bool, vcG2_und, vcGB_TT, vcGB_FF, vcGB_TF, vcGB_FT, vcGB_Tdec, vcGB_Fdec, vcOps_nil, vcOps_cons, vcOut, KCall_ret, KCall_pan, skipF_nil, skipF_cons, Qseq_normal, Qseq_ret, Qseq_exit, Qseq_pan, Qblk_normal, Qblk_exit, Qblk_ret, Qblk_pan, Qpan_eq, Qcut_normal, Qcut_exit, Qcut_ret, Qcut_pan, Qloop_normal, Qloop_exit, Qloop_ret, Qloop_pan,
    stepOp, ev, upd_apply, putF, cellsOf, deref, faddrV, mk, abin, abinI, abinS, ibits, aeqb, aun, fldV, idxOf, elems, isPtr, putRef, splice, fillA, rowsA, minV, peqV, elemsA, rowBytes, strOf, Store.get_push, Store.get_set, Store.n_push, Store.n_set,
    Option.map_some, Option.map_none, reduceIte, Nat.reduceEqDiff, Nat.reduceAdd, Nat.reduceLeDiff, Nat.reduceLT, Nat.zero_add, Nat.add_zero, Nat.add_assoc, Nat.add_left_cancel_iff, Nat.left_eq_add, Nat.add_eq_left, Nat.lt_irrefl, Nat.le_refl,
    List.drop_zero, List.drop_succ_cons, List.take_succ_cons, List.take_zero, List.headD_cons, List.length_cons, List.length_nil, List.getElem?_cons_zero, List.getElem?_cons_succ, List.set_cons_zero, List.set_cons_succ, List.map_cons, List.map_nil,
    Bool.not_true, Bool.not_false, Bool.false_eq_true, Bool.true_eq_false, Bool.not_eq_true', Bool.not_eq_false', eq_self, false_imp_iff, true_imp_iff, and_true, true_and, and_false, false_and, or_true, true_or, initFr, fr0_at, Qend, resL, resV1, pack,
    decide_eq_true_eq, decide_eq_false_iff_not, Int.toNat_natCast, Option.some.injEq, exists_eq_left', vc_cond2, vcC2_bool, vcCB_T, vcCB_F, vcCB_dec, decide_true, decide_false]
  refine (c15 (lentS e) (ok_lent e hok)).use ?_
  simp -implicitDefEqProofs only [encE_length, encE_take5, splice_encE, vc_region, vc_quiet, vcD_nil, vcD_val2, vcDO_val, vcDO_asks, vcD_eff, vcD_guard2, vcDG_TT, vcDG_FF, vcDG_TF, vcDG_FT, vcDG_und, vcDG_Tdec, vcDG_Fdec, vcDEff, saysAll, pendAll, pendNext, addPend, Says, vc_bad, vc_seq, vc_ret, vc_skip, vc_block, vc_exit, vcGrps_nil, vcGrps_cons, vcGrps_guard2, vcG2_bool, vcG2_und, vcGB_TT, vcGB_FF, vcGB_TF, vcGB_FT, vcGB_Tdec, vcGB_Fdec, vcOps_nil, vcOps_cons, vcOut, KCall_ret, KCall_pan, skipF_nil, skipF_cons, Qseq_normal, Qseq_ret, Qseq_exit, Qseq_pan, Qblk_normal, Qblk_exit, Qblk_ret, Qblk_pan, Qpan_eq, Qcut_normal, Qcut_exit, Qcut_ret, Qcut_pan, Qloop_normal, Qloop_exit, Qloop_ret, Qloop_pan,
    stepOp, ev, upd_apply, putF, cellsOf, deref, faddrV, mk, abin, abinI, abinS, ibits, aeqb, aun, fldV, idxOf, elems, isPtr, putRef, splice, fillA, rowsA, minV, peqV, elemsA, rowBytes, strOf, Store.get_push, Store.get_set, Store.n_push, Store.n_set,
    Option.map_some, Option.map_none, reduceIte, Nat.reduceEqDiff, Nat.reduceAdd, Nat.reduceLeDiff, Nat.reduceLT, Nat.zero_add, Nat.add_zero, Nat.add_assoc, Nat.add_left_cancel_iff, Nat.left_eq_add, Nat.add_eq_left, Nat.lt_irrefl, Nat.le_refl,
    List.drop_zero, List.drop_succ_cons, List.take_succ_cons, List.take_zero, List.headD_cons, List.length_cons, List.length_nil, List.getElem?_cons_zero, List.getElem?_cons_succ, List.set_cons_zero, List.set_cons_succ, List.map_cons, List.map_nil,
    Bool.not_true, Bool.not_false, Bool.false_eq_true, Bool.true_eq_false, Bool.not_eq_true', Bool.not_eq_false', eq_self, false_imp_iff, true_imp_iff, and_true, true_and, and_false, false_and, or_true, true_or, initFr, fr0_at, Qend, resL, resV1, pack,
    decide_eq_true_eq, decide_eq_false_iff_not, Int.toNat_natCast, Option.some.injEq, exists_eq_left', vc_cond2, vcC2_bool, vcCB_T, vcCB_F, vcCB_dec, decide_true, decide_false]
  refine (c16 e hok).use ?_
  simp -implicitDefEqProofs only [encE_length, encE_take5, splice_encE, vc_region, vc_quiet, vcD_nil, vcD_val2, vcDO_val, vcDO_asks, vcD_eff, vcD_guard2, vcDG_TT, vcDG_FF, vcDG_TF, vcDG_FT, vcDG_und, vcDG_Tdec, vcDG_Fdec, vcDEff, saysAll, pendAll, pendNext, addPend, Says, vc_bad, vc_seq, vc_ret, vc_skip, vc_block, vc_exit, vcGrps_nil, vcGrps_cons, vcGrps_guard2, vcG2_bool, vcG2_und, vcGB_TT, vcGB_FF, vcGB_TF, vcGB_FT, vcGB_Tdec, vcGB_Fdec, vcOps_nil, vcOps_cons, vcOut, KCall_ret, KCall_pan, skipF_nil, skipF_cons, Qseq_normal, Qseq_ret, Qseq_exit, Qseq_pan, Qblk_normal, Qblk_exit, Qblk_ret, Qblk_pan, Qpan_eq, Qcut_normal, Qcut_exit, Qcut_ret, Qcut_pan, Qloop_normal, Qloop_exit, Qloop_ret, Qloop_pan,
    stepOp, ev, upd_apply, putF, cellsOf, deref, faddrV, mk, abin, abinI, abinS, ibits, aeqb, aun, fldV, idxOf, elems, isPtr, putRef, splice, fillA, rowsA, minV, peqV, elemsA, rowBytes, strOf, Store.get_push, Store.get_set, Store.n_push, Store.n_set,
    Option.map_some, Option.map_none, reduceIte, Nat.reduceEqDiff, Nat.reduceAdd, Nat.reduceLeDiff, Nat.reduceLT, Nat.zero_add, Nat.add_zero, Nat.add_assoc, Nat.add_left_cancel_iff, Nat.left_eq_add, Nat.add_eq_left, Nat.lt_irrefl, Nat.le_refl,
    List.drop_zero, List.drop_succ_cons, List.take_succ_cons, List.take_zero, List.headD_cons, List.length_cons, List.length_nil, List.getElem?_cons_zero, List.getElem?_cons_succ, List.set_cons_zero, List.set_cons_succ, List.map_cons, List.map_nil,
    Bool.not_true, Bool.not_false, Bool.false_eq_true, Bool.true_eq_false, Bool.not_eq_true', Bool.not_eq_false', eq_self, false_imp_iff, true_imp_iff, and_true, true_and, and_false, false_and, or_true, true_or, initFr, fr0_at, Qend, resL, resV1, pack,
    decide_eq_true_eq, decide_eq_false_iff_not, Int.toNat_natCast, Option.some.injEq, exists_eq_left', vc_cond2, vcC2_bool, vcCB_T, vcCB_F, vcCB_dec, decide_true, decide_false]
  refine c13.use ?_
  rw [write_lent]
  simp -implicitDefEqProofs only [encE_length, encE_take5, splice_encE, vc_region, vc_quiet, vcD_nil, vcD_val2, vcDO_val, vcDO_asks, vcD_eff, vcD_guard2, vcDG_TT, vcDG_FF, vcDG_TF, vcDG_FT, vcDG_und, vcDG_Tdec, vcDG_Fdec, vcDEff, saysAll, pendAll, pendNext, addPend, Says, vc_bad, vc_seq, vc_ret, vc_skip, vc_block, vc_exit, vcGrps_nil, vcGrps_cons, vcGrps_guard2, vcG2_bool, vcG2_und, vcGB_TT, vcGB_FF, vcGB_TF, vcGB_FT, vcGB_Tdec, vcGB_Fdec, vcOps_nil, vcOps_cons, vcOut, KCall_ret, KCall_pan, skipF_nil, skipF_cons, Qseq_normal, Qseq_ret, Qseq_exit, Qseq_pan, Qblk_normal, Qblk_exit, Qblk_ret, Qblk_pan, Qpan_eq, Qcut_normal, Qcut_exit, Qcut_ret, Qcut_pan, Qloop_normal, Qloop_exit, Qloop_ret, Qloop_pan,
    stepOp, ev, upd_apply, putF, cellsOf, deref, faddrV, mk, abin, abinI, abinS, ibits, aeqb, aun, fldV, idxOf, elems, isPtr, putRef, splice, fillA, rowsA, minV, peqV, elemsA, rowBytes, strOf, Store.get_push, Store.get_set, Store.n_push, Store.n_set,
    Option.map_some, Option.map_none, reduceIte, Nat.reduceEqDiff, Nat.reduceAdd, Nat.reduceLeDiff, Nat.reduceLT, Nat.zero_add, Nat.add_zero, Nat.add_assoc, Nat.add_left_cancel_iff, Nat.left_eq_add, Nat.add_eq_left, Nat.lt_irrefl, Nat.le_refl,
    List.drop_zero, List.drop_succ_cons, List.take_succ_cons, List.take_zero, List.headD_cons, List.length_cons, List.length_nil, List.getElem?_cons_zero, List.getElem?_cons_succ, List.set_cons_zero, List.set_cons_succ, List.map_cons, List.map_nil,
    Bool.not_true, Bool.not_false, Bool.false_eq_true, Bool.true_eq_false, Bool.not_eq_true', Bool.not_eq_false', eq_self, false_imp_iff, true_imp_iff, and_true, true_and, and_false, false_and, or_true, true_or, initFr, fr0_at, Qend, resL, resV1, pack,
    decide_eq_true_eq, decide_eq_false_iff_not, Int.toNat_natCast, Option.some.injEq, exists_eq_left', vc_cond2, vcC2_bool, vcCB_T, vcCB_F, vcCB_dec, decide_true, decide_false]
  refine (c17 (lentS e) e).use ?_
  rw [same_lent]
  simp -implicitDefEqProofs only [encE_length, encE_take5, splice_encE, vc_region, vc_quiet, vcD_nil, vcD_val2, vcDO_val, vcDO_asks, vcD_eff, vcD_guard2, vcDG_TT, vcDG_FF, vcDG_TF, vcDG_FT, vcDG_und, vcDG_Tdec, vcDG_Fdec, vcDEff, saysAll, pendAll, pendNext, addPend, Says, vc_bad, vc_seq, vc_ret, vc_skip, vc_block, vc_exit, vcGrps_nil, vcGrps_cons, vcGrps_guard2, vcG2_bool, vcG2_und, vcGB_TT, vcGB_FF, vcGB_TF, vcGB_FT, vcGB_Tdec, vcGB_Fdec, vcOps_nil, vcOps_cons, vcOut, KCall_ret, KCall_pan, skipF_nil, skipF_cons, Qseq_normal, Qseq_ret, Qseq_exit, Qseq_pan, Qblk_normal, Qblk_exit, Qblk_ret, Qblk_pan, Qpan_eq, Qcut_normal, Qcut_exit, Qcut_ret, Qcut_pan, Qloop_normal, Qloop_exit, Qloop_ret, Qloop_pan,
    stepOp, ev, upd_apply, putF, cellsOf, deref, faddrV, mk, abin, abinI, abinS, ibits, aeqb, aun, fldV, idxOf, elems, isPtr, putRef, splice, fillA, rowsA, minV, peqV, elemsA, rowBytes, strOf, Store.get_push, Store.get_set, Store.n_push, Store.n_set,
    Option.map_some, Option.map_none, reduceIte, Nat.reduceEqDiff, Nat.reduceAdd, Nat.reduceLeDiff, Nat.reduceLT, Nat.zero_add, Nat.add_zero, Nat.add_assoc, Nat.add_left_cancel_iff, Nat.left_eq_add, Nat.add_eq_left, Nat.lt_irrefl, Nat.le_refl,
    List.drop_zero, List.drop_succ_cons, List.take_succ_cons, List.take_zero, List.headD_cons, List.length_cons, List.length_nil, List.getElem?_cons_zero, List.getElem?_cons_succ, List.set_cons_zero, List.set_cons_succ, List.map_cons, List.map_nil,
    Bool.not_true, Bool.not_false, Bool.false_eq_true, Bool.true_eq_false, Bool.not_eq_true', Bool.not_eq_false', eq_self, false_imp_iff, true_imp_iff, and_true, true_and, and_false, false_and, or_true, true_or, initFr, fr0_at, Qend, resL, resV1, pack,
    decide_eq_true_eq, decide_eq_false_iff_not, Int.toNat_natCast, Option.some.injEq, exists_eq_left', vc_cond2, vcC2_bool, vcCB_T, vcCB_F, vcCB_dec, decide_true, decide_false]
  refine (c18 e).use ?_
  simp -implicitDefEqProofs only [encE_length, encE_take5, splice_encE, vc_region, vc_quiet, vcD_nil, vcD_val2, vcDO_val, vcDO_asks, vcD_eff, vcD_guard2, vcDG_TT, vcDG_FF, vcDG_TF, vcDG_FT, vcDG_und, vcDG_Tdec, vcDG_Fdec, vcDEff, saysAll, pendAll, pendNext, addPend, Says, vc_bad, vc_seq, vc_ret, vc_skip, vc_block, vc_exit, vcGrps_nil, vcGrps_cons, vcGrps_guard2, vcG2_bool, vcG2_und, vcGB_TT, vcGB_FF, vcGB_TF, vcGB_FT, vcGB_Tdec, vcGB_Fdec, vcOps_nil, vcOps_cons, vcOut, KCall_ret, KCall_pan, skipF_nil, skipF_cons, Qseq_normal, Qseq_ret, Qseq_exit, Qseq_pan, Qblk_normal, Qblk_exit, Qblk_ret, Qblk_pan, Qpan_eq, Qcut_normal, Qcut_exit, Qcut_ret, Qcut_pan, Qloop_normal, Qloop_exit, Qloop_ret, Qloop_pan,
    stepOp, ev, upd_apply, putF, cellsOf, deref, faddrV, mk, abin, abinI, abinS, ibits, aeqb, aun, fldV, idxOf, elems, isPtr, putRef, splice, fillA, rowsA, minV, peqV, elemsA, rowBytes, strOf, Store.get_push, Store.get_set, Store.n_push, Store.n_set,
    Option.map_some, Option.map_none, reduceIte, Nat.reduceEqDiff, Nat.reduceAdd, Nat.reduceLeDiff, Nat.reduceLT, Nat.zero_add, Nat.add_zero, Nat.add_assoc, Nat.add_left_cancel_iff, Nat.left_eq_add, Nat.add_eq_left, Nat.lt_irrefl, Nat.le_refl,
    List.drop_zero, List.drop_succ_cons, List.take_succ_cons, List.take_zero, List.headD_cons, List.length_cons, List.length_nil, List.getElem?_cons_zero, List.getElem?_cons_succ, List.set_cons_zero, List.set_cons_succ, List.map_cons, List.map_nil,
    Bool.not_true, Bool.not_false, Bool.false_eq_true, Bool.true_eq_false, Bool.not_eq_true', Bool.not_eq_false', eq_self, false_imp_iff, true_imp_iff, and_true, true_and, and_false, false_and, or_true, true_or, initFr, fr0_at, Qend, resL, resV1, pack,
    decide_eq_true_eq, decide_eq_false_iff_not, Int.toNat_natCast, Option.some.injEq, exists_eq_left', vc_cond2, vcC2_bool, vcCB_T, vcCB_F, vcCB_dec, decide_true, decide_false]
  exact ((hx _).push _).set _ _ (by omega)
end Go.Proofs.Ytmlllckecalaaaa.Eng

namespace Go.Proofs.Ytmlllckecalaaaa.Eng
open Go Go.Proofs.Try

/-! ## The head of what is written -/
theorem getS_beN : ∀ (k n : Nat), n < 256 ^ k → getS (beN k n) = n := by
  have key : ∀ (k n a : Nat), (beN k n).foldl (fun v b => v * 256 + b.toNat) a = a * 256 ^ k + n % 256 ^ k := by
    intro k
    induction k with
    | zero => intro n a; simp [beN, Nat.mod_one]
    | succ k ih =>
      intro n a
      rw [beN, List.foldl_cons, ih]
      have h1 : (UInt8.ofNat (n / 2 ^ (8 * k))).toNat = n / 256 ^ k % 256 := by
        rw [show (2 : Nat) ^ (8 * k) = 256 ^ k by rw [Nat.pow_mul]]
        simp
      rw [h1, Nat.pow_succ, Nat.mod_mul, Nat.add_mul, Nat.mul_assoc, Nat.mul_comm 256 (256 ^ k)]
      have := Nat.mul_comm (n / 256 ^ k % 256) (256 ^ k)
      omega
  intro k n h
  have := key k n 0
  rw [getS, this, Nat.mod_eq_of_lt h]; simp
theorem kOf_256 (n : Nat) (h : n < 16777216) : n < 256 ^ kOf n := by
  have := (kOf_lt n h).2.2
  rwa [Nat.pow_mul] at this
/-- An element's bytes begin so. -/
theorem rhead_put (c : UInt8) (hc : c.toNat % 32 ≠ 31) (n : Nat) (hn : n < 16777216) (rest : List UInt8) (i : Nat) :
    rheadS ((c :: (lenS n ++ rest)).take i) = if i < 1 + (lenS n).length then (0, 0, 20) else (1 + (lenS n).length, n, 0) := by
  have hk := kOf_lt n hn
  match i with
  | 0 => rw [if_pos (by omega)]; rfl
  | 1 =>
    have := (lenS_length n).2
    rw [if_pos (by omega)]
    simp only [List.take_succ_cons, List.take_zero, rheadS, if_neg hc]
  | i + 2 =>
    simp only [List.take_succ_cons]
    unfold lenS
    by_cases h1 : n < 128
    · simp only [if_pos h1, List.cons_append, List.nil_append, List.take_succ_cons, List.length_cons, List.length_nil]
      rw [if_neg (by omega), rheadS, if_neg hc]
      have : (UInt8.ofNat n).toNat = n := by simp; omega
      rw [this, if_pos h1]
    · simp only [if_neg h1, List.cons_append, List.take_succ_cons, List.length_cons, beN_length]
      have hd : (UInt8.ofNat (128 + kOf n)).toNat = 128 + kOf n := by simp; omega
      rw [rheadS, if_neg hc, hd, if_neg (by omega), if_neg (by omega), show 128 + kOf n - 128 = kOf n by omega]
      have hl : ((beN (kOf n) n ++ rest).take i).length = min i (kOf n + rest.length) := by rw [List.length_take, List.length_append, beN_length]
      by_cases h2 : i < kOf n
      · rw [if_pos (by omega), if_pos (by omega)]
      · rw [if_neg (by omega), if_neg (by omega)]
        have e1 : ((beN (kOf n) n ++ rest).take i).take (kOf n) = beN (kOf n) n := by
          rw [List.take_take, Nat.min_eq_left (by omega), List.take_append_of_le_length (by rw [beN_length]; omega), List.take_of_length_le (by rw [beN_length]; omega)]
        rw [e1, getS_beN _ _ (kOf_256 n hn)]
        simp only [Prod.mk.injEq, and_true]; omega
theorem firstS_mod (e : Elem) (h : tagOk e = true) : (firstS e).toNat % 32 ≠ 31 ∧ (firstS e).toNat = 64 * e.cls.toNat + e.tag.toNat + (if e.cons then 32 else 0) := by
  simp only [tagOk, decide_eq_true_eq] at h
  have : (firstS e).toNat = 64 * e.cls.toNat + e.tag.toNat + (if e.cons then 32 else 0) := by
    unfold firstS
    simp only [UInt8.toNat_ofNat']
    cases e.cons <;> simp <;> omega
  rw [this]
  refine ⟨?_, rfl⟩
  cases e.cons <;> simp <;> omega
theorem write_ok {e : Elem} (h : (writeS e).2 = 0) : (writeS e).1 = putS e ∧ eachS tagOk e 0 = true ∧ eachS formOk e 0 = true ∧ deepS e 0 = false ∧ sizeS e ≤ 65536 := by
  unfold writeS at h ⊢
  split at h
  · cases h
  split at h
  · cases h
  split at h
  · cases h
  split at h
  · cases h
  rename_i h1 h2 h3 h4
  rw [if_neg h1, if_neg h2, if_neg h3, if_neg h4]
  exact ⟨rfl, by simpa using h1, by simpa using h2, by simpa using h3, by omega⟩
theorem frame_put (e : Elem) (ht : tagOk e = true) (hs : sizeS e ≤ 65536) (more : List UInt8) (i : Nat) :
    frameS ((putS e ++ more).take i) = if i < 1 + (lenS (e.bytes.length + sumS e.kids)).length then (0, 20) else ((putS e).length, 0) := by
  obtain ⟨h1, h2, h3⟩ := sizeS_sum e hs
  rw [putS_length e hs, h1]
  rw [h1] at hs
  have e1 : putS e ++ more = firstS e :: (lenS (e.bytes.length + sumS e.kids) ++ (e.bytes ++ putSs e.kids ++ more)) := by rw [putS_eta]; simp
  rw [e1, frameS, headS, rhead_put _ (firstS_mod e ht).1 _ (by omega)]
  by_cases h : i < 1 + (lenS (e.bytes.length + sumS e.kids)).length
  · rw [if_pos h, if_pos h, if_neg (by simp)]; rfl
  · rw [if_neg h, if_neg h, if_neg (by simp only; omega)]

theorem c4 (e : Elem) (hok : okE e) : Pure prog 4 [.agg (encE e)] (.bool true) := by
  refine Pure.of (fun _ _ => by simp only [nm]) fun S => acalls_of_vc low4 (by simp) ?_
  have hx := (Ext.refl S).push
  simp -implicitDefEqProofs only [B4, encE_length, encE_take5, vc_region, vc_quiet, vcD_nil, vcD_val2, vcDO_val, vcDO_asks, vcD_eff, vcD_guard2, vcDG_TT, vcDG_FF, vcDG_TF, vcDG_FT, vcDG_und, vcDG_Tdec, vcDG_Fdec, vcDEff, saysAll, pendAll, pendNext, addPend, Says, vc_bad, vc_seq, vc_ret, vc_skip, vc_block, vc_exit, vcGrps_nil, vcGrps_cons, vcGrps_guard2, vcG2_bool, vcG2_und, vcGB_TT, vcGB_FF, vcGB_TF, vcGB_FT, vcGB_Tdec, vcGB_Fdec, vcOps_nil, vcOps_cons, vcOut, KCall_ret, KCall_pan, skipF_nil, skipF_cons, Qseq_normal, Qseq_ret, Qseq_exit, Qseq_pan, Qblk_normal, Qblk_exit, Qblk_ret, Qblk_pan, Qpan_eq, Qcut_normal, Qcut_exit, Qcut_ret, Qcut_pan, Qloop_normal, Qloop_exit, Qloop_ret, Qloop_pan,
    stepOp, ev, upd_apply, putF, cellsOf, deref, faddrV, mk, abin, abinI, abinS, ibits, aeqb, aun, fldV, idxOf, elems, isPtr, putRef, splice, fillA, rowsA, minV, peqV, elemsA, rowBytes, strOf, Store.get_push, Store.get_set, Store.n_push, Store.n_set,
    Option.map_some, Option.map_none, reduceIte, Nat.reduceEqDiff, Nat.reduceAdd, Nat.reduceLeDiff, Nat.reduceLT, Nat.zero_add, Nat.add_zero, Nat.add_assoc, Nat.add_left_cancel_iff, Nat.left_eq_add, Nat.add_eq_left, Nat.lt_irrefl, Nat.le_refl,
    List.drop_zero, List.drop_succ_cons, List.take_succ_cons, List.take_zero, List.headD_cons, List.length_cons, List.length_nil, List.getElem?_cons_zero, List.getElem?_cons_succ, List.set_cons_zero, List.set_cons_succ, List.map_cons, List.map_nil,
    Bool.not_true, Bool.not_false, Bool.false_eq_true, Bool.true_eq_false, Bool.not_eq_true', Bool.not_eq_false', eq_self, false_imp_iff, true_imp_iff, and_true, true_and, and_false, false_and, or_true, true_or, initFr, fr0_at, Qend, resL, resV1, pack,
    decide_eq_true_eq, decide_eq_false_iff_not, Int.toNat_natCast, Option.some.injEq, exists_eq_left', vc_cond2, vcC2_bool, vcCB_T, vcCB_F, vcCB_dec, decide_true, decide_false]
  refine (c12 e).use ?_
  simp -implicitDefEqProofs only [encE_length, encE_take5, vc_region, vc_quiet, vcD_nil, vcD_val2, vcDO_val, vcDO_asks, vcD_eff, vcD_guard2, vcDG_TT, vcDG_FF, vcDG_TF, vcDG_FT, vcDG_und, vcDG_Tdec, vcDG_Fdec, vcDEff, saysAll, pendAll, pendNext, addPend, Says, vc_bad, vc_seq, vc_ret, vc_skip, vc_block, vc_exit, vcGrps_nil, vcGrps_cons, vcGrps_guard2, vcG2_bool, vcG2_und, vcGB_TT, vcGB_FF, vcGB_TF, vcGB_FT, vcGB_Tdec, vcGB_Fdec, vcOps_nil, vcOps_cons, vcOut, KCall_ret, KCall_pan, skipF_nil, skipF_cons, Qseq_normal, Qseq_ret, Qseq_exit, Qseq_pan, Qblk_normal, Qblk_exit, Qblk_ret, Qblk_pan, Qpan_eq, Qcut_normal, Qcut_exit, Qcut_ret, Qcut_pan, Qloop_normal, Qloop_exit, Qloop_ret, Qloop_pan,
    stepOp, ev, upd_apply, putF, cellsOf, deref, faddrV, mk, abin, abinI, abinS, ibits, aeqb, aun, fldV, idxOf, elems, isPtr, putRef, splice, fillA, rowsA, minV, peqV, elemsA, rowBytes, strOf, Store.get_push, Store.get_set, Store.n_push, Store.n_set,
    Option.map_some, Option.map_none, reduceIte, Nat.reduceEqDiff, Nat.reduceAdd, Nat.reduceLeDiff, Nat.reduceLT, Nat.zero_add, Nat.add_zero, Nat.add_assoc, Nat.add_left_cancel_iff, Nat.left_eq_add, Nat.add_eq_left, Nat.lt_irrefl, Nat.le_refl,
    List.drop_zero, List.drop_succ_cons, List.take_succ_cons, List.take_zero, List.headD_cons, List.length_cons, List.length_nil, List.getElem?_cons_zero, List.getElem?_cons_succ, List.set_cons_zero, List.set_cons_succ, List.map_cons, List.map_nil,
    Bool.not_true, Bool.not_false, Bool.false_eq_true, Bool.true_eq_false, Bool.not_eq_true', Bool.not_eq_false', eq_self, false_imp_iff, true_imp_iff, and_true, true_and, and_false, false_and, or_true, true_or, initFr, fr0_at, Qend, resL, resV1, pack,
    decide_eq_true_eq, decide_eq_false_iff_not, Int.toNat_natCast, Option.some.injEq, exists_eq_left', vc_cond2, vcC2_bool, vcCB_T, vcCB_F, vcCB_dec, decide_true, decide_false]
  refine ⟨fun _ => ?_, fun _ => ?_⟩
  · refine c13.use ?_
    simp -implicitDefEqProofs only [vc_region, vc_quiet, vcD_nil, vcD_val2, vcDO_val, vcDO_asks, vcD_eff, vcD_guard2, vcDG_TT, vcDG_FF, vcDG_TF, vcDG_FT, vcDG_und, vcDG_Tdec, vcDG_Fdec, vcDEff, saysAll, pendAll, pendNext, addPend, Says, vc_bad, vc_seq, vc_ret, vc_skip, vc_block, vc_exit, vcGrps_nil, vcGrps_cons, vcGrps_guard2, vcG2_bool, vcG2_und, vcGB_TT, vcGB_FF, vcGB_TF, vcGB_FT, vcGB_Tdec, vcGB_Fdec, vcOps_nil, vcOps_cons, vcOut, KCall_ret, KCall_pan, skipF_nil, skipF_cons, Qseq_normal, Qseq_ret, Qseq_exit, Qseq_pan, Qblk_normal, Qblk_exit, Qblk_ret, Qblk_pan, Qpan_eq, Qcut_normal, Qcut_exit, Qcut_ret, Qcut_pan, Qloop_normal, Qloop_exit, Qloop_ret, Qloop_pan,
    stepOp, ev, upd_apply, putF, cellsOf, deref, faddrV, mk, abin, abinI, abinS, ibits, aeqb, aun, fldV, idxOf, elems, isPtr, putRef, splice, fillA, rowsA, minV, peqV, elemsA, rowBytes, strOf, Store.get_push, Store.get_set, Store.n_push, Store.n_set,
    Option.map_some, Option.map_none, reduceIte, Nat.reduceEqDiff, Nat.reduceAdd, Nat.reduceLeDiff, Nat.reduceLT, Nat.zero_add, Nat.add_zero, Nat.add_assoc, Nat.add_left_cancel_iff, Nat.left_eq_add, Nat.add_eq_left, Nat.lt_irrefl, Nat.le_refl,
    List.drop_zero, List.drop_succ_cons, List.take_succ_cons, List.take_zero, List.headD_cons, List.length_cons, List.length_nil, List.getElem?_cons_zero, List.getElem?_cons_succ, List.set_cons_zero, List.set_cons_succ, List.map_cons, List.map_nil,
    Bool.not_true, Bool.not_false, Bool.false_eq_true, Bool.true_eq_false, Bool.not_eq_true', Bool.not_eq_false', eq_self, false_imp_iff, true_imp_iff, and_true, true_and, and_false, false_and, or_true, true_or, initFr, fr0_at, Qend, resL, resV1, pack,
    decide_eq_true_eq, decide_eq_false_iff_not, Int.toNat_natCast, Option.some.injEq, exists_eq_left', vc_cond2, vcC2_bool, vcCB_T, vcCB_F, vcCB_dec, decide_true, decide_false]
    exact hx _
  refine (c15 e hok).use ?_
  by_cases hw : (writeS e).2 = 0
  rotate_left
  · have hw' : ¬ (writeS e).2 = 0 := hw
    simp -implicitDefEqProofs only [hw', ne_eq, not_false_eq_true, vc_region, vc_quiet, vcD_nil, vcD_val2, vcDO_val, vcDO_asks, vcD_eff, vcD_guard2, vcDG_TT, vcDG_FF, vcDG_TF, vcDG_FT, vcDG_und, vcDG_Tdec, vcDG_Fdec, vcDEff, saysAll, pendAll, pendNext, addPend, Says, vc_bad, vc_seq, vc_ret, vc_skip, vc_block, vc_exit, vcGrps_nil, vcGrps_cons, vcGrps_guard2, vcG2_bool, vcG2_und, vcGB_TT, vcGB_FF, vcGB_TF, vcGB_FT, vcGB_Tdec, vcGB_Fdec, vcOps_nil, vcOps_cons, vcOut, KCall_ret, KCall_pan, skipF_nil, skipF_cons, Qseq_normal, Qseq_ret, Qseq_exit, Qseq_pan, Qblk_normal, Qblk_exit, Qblk_ret, Qblk_pan, Qpan_eq, Qcut_normal, Qcut_exit, Qcut_ret, Qcut_pan, Qloop_normal, Qloop_exit, Qloop_ret, Qloop_pan,
    stepOp, ev, upd_apply, putF, cellsOf, deref, faddrV, mk, abin, abinI, abinS, ibits, aeqb, aun, fldV, idxOf, elems, isPtr, putRef, splice, fillA, rowsA, minV, peqV, elemsA, rowBytes, strOf, Store.get_push, Store.get_set, Store.n_push, Store.n_set,
    Option.map_some, Option.map_none, reduceIte, Nat.reduceEqDiff, Nat.reduceAdd, Nat.reduceLeDiff, Nat.reduceLT, Nat.zero_add, Nat.add_zero, Nat.add_assoc, Nat.add_left_cancel_iff, Nat.left_eq_add, Nat.add_eq_left, Nat.lt_irrefl, Nat.le_refl,
    List.drop_zero, List.drop_succ_cons, List.take_succ_cons, List.take_zero, List.headD_cons, List.length_cons, List.length_nil, List.getElem?_cons_zero, List.getElem?_cons_succ, List.set_cons_zero, List.set_cons_succ, List.map_cons, List.map_nil,
    Bool.not_true, Bool.not_false, Bool.false_eq_true, Bool.true_eq_false, Bool.not_eq_true', Bool.not_eq_false', eq_self, false_imp_iff, true_imp_iff, and_true, true_and, and_false, false_and, or_true, true_or, initFr, fr0_at, Qend, resL, resV1, pack,
    decide_eq_true_eq, decide_eq_false_iff_not, Int.toNat_natCast, Option.some.injEq, exists_eq_left', vc_cond2, vcC2_bool, vcCB_T, vcCB_F, vcCB_dec, decide_true, decide_false]
    refine c13.use ?_
    simp -implicitDefEqProofs only [vc_region, vc_quiet, vcD_nil, vcD_val2, vcDO_val, vcDO_asks, vcD_eff, vcD_guard2, vcDG_TT, vcDG_FF, vcDG_TF, vcDG_FT, vcDG_und, vcDG_Tdec, vcDG_Fdec, vcDEff, saysAll, pendAll, pendNext, addPend, Says, vc_bad, vc_seq, vc_ret, vc_skip, vc_block, vc_exit, vcGrps_nil, vcGrps_cons, vcGrps_guard2, vcG2_bool, vcG2_und, vcGB_TT, vcGB_FF, vcGB_TF, vcGB_FT, vcGB_Tdec, vcGB_Fdec, vcOps_nil, vcOps_cons, vcOut, KCall_ret, KCall_pan, skipF_nil, skipF_cons, Qseq_normal, Qseq_ret, Qseq_exit, Qseq_pan, Qblk_normal, Qblk_exit, Qblk_ret, Qblk_pan, Qpan_eq, Qcut_normal, Qcut_exit, Qcut_ret, Qcut_pan, Qloop_normal, Qloop_exit, Qloop_ret, Qloop_pan,
    stepOp, ev, upd_apply, putF, cellsOf, deref, faddrV, mk, abin, abinI, abinS, ibits, aeqb, aun, fldV, idxOf, elems, isPtr, putRef, splice, fillA, rowsA, minV, peqV, elemsA, rowBytes, strOf, Store.get_push, Store.get_set, Store.n_push, Store.n_set,
    Option.map_some, Option.map_none, reduceIte, Nat.reduceEqDiff, Nat.reduceAdd, Nat.reduceLeDiff, Nat.reduceLT, Nat.zero_add, Nat.add_zero, Nat.add_assoc, Nat.add_left_cancel_iff, Nat.left_eq_add, Nat.add_eq_left, Nat.lt_irrefl, Nat.le_refl,
    List.drop_zero, List.drop_succ_cons, List.take_succ_cons, List.take_zero, List.headD_cons, List.length_cons, List.length_nil, List.getElem?_cons_zero, List.getElem?_cons_succ, List.set_cons_zero, List.set_cons_succ, List.map_cons, List.map_nil,
    Bool.not_true, Bool.not_false, Bool.false_eq_true, Bool.true_eq_false, Bool.not_eq_true', Bool.not_eq_false', eq_self, false_imp_iff, true_imp_iff, and_true, true_and, and_false, false_and, or_true, true_or, initFr, fr0_at, Qend, resL, resV1, pack,
    decide_eq_true_eq, decide_eq_false_iff_not, Int.toNat_natCast, Option.some.injEq, exists_eq_left', vc_cond2, vcC2_bool, vcCB_T, vcCB_F, vcCB_dec, decide_true, decide_false]
    exact hx _
  obtain ⟨w1, w2, w3, w4, w5⟩ := write_ok hw
  have htag : tagOk e = true := by
    rw [eachS_eta] at w2; simp at w2; exact w2.1
  rw [hw, w1]
  have hpl : (putS e).length ≤ 65536 := by rw [putS_length e w5]; exact w5
  simp -implicitDefEqProofs only [ne_eq, not_true, not_false_eq_true, vc_region, vc_quiet, vcD_nil, vcD_val2, vcDO_val, vcDO_asks, vcD_eff, vcD_guard2, vcDG_TT, vcDG_FF, vcDG_TF, vcDG_FT, vcDG_und, vcDG_Tdec, vcDG_Fdec, vcDEff, saysAll, pendAll, pendNext, addPend, Says, vc_bad, vc_seq, vc_ret, vc_skip, vc_block, vc_exit, vcGrps_nil, vcGrps_cons, vcGrps_guard2, vcG2_bool, vcG2_und, vcGB_TT, vcGB_FF, vcGB_TF, vcGB_FT, vcGB_Tdec, vcGB_Fdec, vcOps_nil, vcOps_cons, vcOut, KCall_ret, KCall_pan, skipF_nil, skipF_cons, Qseq_normal, Qseq_ret, Qseq_exit, Qseq_pan, Qblk_normal, Qblk_exit, Qblk_ret, Qblk_pan, Qpan_eq, Qcut_normal, Qcut_exit, Qcut_ret, Qcut_pan, Qloop_normal, Qloop_exit, Qloop_ret, Qloop_pan,
    stepOp, ev, upd_apply, putF, cellsOf, deref, faddrV, mk, abin, abinI, abinS, ibits, aeqb, aun, fldV, idxOf, elems, isPtr, putRef, splice, fillA, rowsA, minV, peqV, elemsA, rowBytes, strOf, Store.get_push, Store.get_set, Store.n_push, Store.n_set,
    Option.map_some, Option.map_none, reduceIte, Nat.reduceEqDiff, Nat.reduceAdd, Nat.reduceLeDiff, Nat.reduceLT, Nat.zero_add, Nat.add_zero, Nat.add_assoc, Nat.add_left_cancel_iff, Nat.left_eq_add, Nat.add_eq_left, Nat.lt_irrefl, Nat.le_refl,
    List.drop_zero, List.drop_succ_cons, List.take_succ_cons, List.take_zero, List.headD_cons, List.length_cons, List.length_nil, List.getElem?_cons_zero, List.getElem?_cons_succ, List.set_cons_zero, List.set_cons_succ, List.map_cons, List.map_nil,
    Bool.not_true, Bool.not_false, Bool.false_eq_true, Bool.true_eq_false, Bool.not_eq_true', Bool.not_eq_false', eq_self, false_imp_iff, true_imp_iff, and_true, true_and, and_false, false_and, or_true, true_or, initFr, fr0_at, Qend, resL, resV1, pack,
    decide_eq_true_eq, decide_eq_false_iff_not, Int.toNat_natCast, Option.some.injEq, exists_eq_left', vc_cond2, vcC2_bool, vcCB_T, vcCB_F, vcCB_dec, decide_true, decide_false]
  intro _
  refine ⟨fun _ => ?_, fun hlong => ?_⟩
  · refine c13.use ?_
    simp -implicitDefEqProofs only [vc_region, vc_quiet, vcD_nil, vcD_val2, vcDO_val, vcDO_asks, vcD_eff, vcD_guard2, vcDG_TT, vcDG_FF, vcDG_TF, vcDG_FT, vcDG_und, vcDG_Tdec, vcDG_Fdec, vcDEff, saysAll, pendAll, pendNext, addPend, Says, vc_bad, vc_seq, vc_ret, vc_skip, vc_block, vc_exit, vcGrps_nil, vcGrps_cons, vcGrps_guard2, vcG2_bool, vcG2_und, vcGB_TT, vcGB_FF, vcGB_TF, vcGB_FT, vcGB_Tdec, vcGB_Fdec, vcOps_nil, vcOps_cons, vcOut, KCall_ret, KCall_pan, skipF_nil, skipF_cons, Qseq_normal, Qseq_ret, Qseq_exit, Qseq_pan, Qblk_normal, Qblk_exit, Qblk_ret, Qblk_pan, Qpan_eq, Qcut_normal, Qcut_exit, Qcut_ret, Qcut_pan, Qloop_normal, Qloop_exit, Qloop_ret, Qloop_pan,
    stepOp, ev, upd_apply, putF, cellsOf, deref, faddrV, mk, abin, abinI, abinS, ibits, aeqb, aun, fldV, idxOf, elems, isPtr, putRef, splice, fillA, rowsA, minV, peqV, elemsA, rowBytes, strOf, Store.get_push, Store.get_set, Store.n_push, Store.n_set,
    Option.map_some, Option.map_none, reduceIte, Nat.reduceEqDiff, Nat.reduceAdd, Nat.reduceLeDiff, Nat.reduceLT, Nat.zero_add, Nat.add_zero, Nat.add_assoc, Nat.add_left_cancel_iff, Nat.left_eq_add, Nat.add_eq_left, Nat.lt_irrefl, Nat.le_refl,
    List.drop_zero, List.drop_succ_cons, List.take_succ_cons, List.take_zero, List.headD_cons, List.length_cons, List.length_nil, List.getElem?_cons_zero, List.getElem?_cons_succ, List.set_cons_zero, List.set_cons_succ, List.map_cons, List.map_nil,
    Bool.not_true, Bool.not_false, Bool.false_eq_true, Bool.true_eq_false, Bool.not_eq_true', Bool.not_eq_false', eq_self, false_imp_iff, true_imp_iff, and_true, true_and, and_false, false_and, or_true, true_or, initFr, fr0_at, Qend, resL, resV1, pack,
    decide_eq_true_eq, decide_eq_false_iff_not, Int.toNat_natCast, Option.some.injEq, exists_eq_left', vc_cond2, vcC2_bool, vcCB_T, vcCB_F, vcCB_dec, decide_true, decide_false]
    exact hx _
  have hll := lenS_length (e.bytes.length + sumS e.kids)
  obtain ⟨h1, _, _⟩ := sizeS_sum e w5
  have hpe := putS_length e w5
  generalize hL : 1 + (lenS (e.bytes.length + sumS e.kids)).length = L at hll h1
  have hLe : L ≤ 5 := by omega
  have hLp : L ≤ (putS e).length := by omega
  refine vc_loop (fun n fr T => ∃ i : Nat, i + n = (putS e).length + 1 ∧ fr 3 = .str (putS e) ∧ fr 6 = .int .i64 i ∧ fr 5 = .bool (decide (L < i)) ∧ Ext S T) ((putS e).length + 1)
    ⟨0, by omega, by simp [upd_apply], by simp [upd_apply], by simp [upd_apply], hx _⟩ ?_
  rintro n fr T ⟨i, hin, f3, f6, f5, hE⟩
  by_cases hle : i ≤ (putS e).length
  · have hle' : (i : Int) ≤ (putS e).length := by omega
    have h0 : (0 : Int) ≤ i := by omega
    have hi1 : IntKind.i64.wrap ((i : Int) + 1) = i + 1 := w64 _ (by omega) (by omega)
    simp -implicitDefEqProofs only [f3, f5, f6, hle, hle', h0, Nat.zero_le, vc_region, vc_quiet, vcD_nil, vcD_val2, vcDO_val, vcDO_asks, vcD_eff, vcD_guard2, vcDG_TT, vcDG_FF, vcDG_TF, vcDG_FT, vcDG_und, vcDG_Tdec, vcDG_Fdec, vcDEff, saysAll, pendAll, pendNext, addPend, Says, vc_bad, vc_seq, vc_ret, vc_skip, vc_block, vc_exit, vcGrps_nil, vcGrps_cons, vcGrps_guard2, vcG2_bool, vcG2_und, vcGB_TT, vcGB_FF, vcGB_TF, vcGB_FT, vcGB_Tdec, vcGB_Fdec, vcOps_nil, vcOps_cons, vcOut, KCall_ret, KCall_pan, skipF_nil, skipF_cons, Qseq_normal, Qseq_ret, Qseq_exit, Qseq_pan, Qblk_normal, Qblk_exit, Qblk_ret, Qblk_pan, Qpan_eq, Qcut_normal, Qcut_exit, Qcut_ret, Qcut_pan, Qloop_normal, Qloop_exit, Qloop_ret, Qloop_pan,
    stepOp, ev, upd_apply, putF, cellsOf, deref, faddrV, mk, abin, abinI, abinS, ibits, aeqb, aun, fldV, idxOf, elems, isPtr, putRef, splice, fillA, rowsA, minV, peqV, elemsA, rowBytes, strOf, Store.get_push, Store.get_set, Store.n_push, Store.n_set,
    Option.map_some, Option.map_none, reduceIte, Nat.reduceEqDiff, Nat.reduceAdd, Nat.reduceLeDiff, Nat.reduceLT, Nat.zero_add, Nat.add_zero, Nat.add_assoc, Nat.add_left_cancel_iff, Nat.left_eq_add, Nat.add_eq_left, Nat.lt_irrefl, Nat.le_refl,
    List.drop_zero, List.drop_succ_cons, List.take_succ_cons, List.take_zero, List.headD_cons, List.length_cons, List.length_nil, List.getElem?_cons_zero, List.getElem?_cons_succ, List.set_cons_zero, List.set_cons_succ, List.map_cons, List.map_nil,
    Bool.not_true, Bool.not_false, Bool.false_eq_true, Bool.true_eq_false, Bool.not_eq_true', Bool.not_eq_false', eq_self, false_imp_iff, true_imp_iff, and_true, true_and, and_false, false_and, or_true, true_or, initFr, fr0_at, Qend, resL, resV1, pack,
    decide_eq_true_eq, decide_eq_false_iff_not, Int.toNat_natCast, Option.some.injEq, exists_eq_left', vc_cond2, vcC2_bool, vcCB_T, vcCB_F, vcCB_dec, decide_true, decide_false]
    intro _
    refine (c19 ((putS e).take i)).use ?_
    have hf := frame_put e htag w5 [] i
    rw [List.append_nil, hL] at hf
    rw [hf]
    by_cases hiL : i < L
    · have hnL : ¬ L < i := by omega
      have hi6 : (i : Int) < 6 := by omega
      have e20 : ((20 : Nat) : Int) = 20 := rfl
      rw [if_pos hiL]
      simp -implicitDefEqProofs only [f3, f5, f6, hnL, hi6, hi1, e20, vc_region, vc_quiet, vcD_nil, vcD_val2, vcDO_val, vcDO_asks, vcD_eff, vcD_guard2, vcDG_TT, vcDG_FF, vcDG_TF, vcDG_FT, vcDG_und, vcDG_Tdec, vcDG_Fdec, vcDEff, saysAll, pendAll, pendNext, addPend, Says, vc_bad, vc_seq, vc_ret, vc_skip, vc_block, vc_exit, vcGrps_nil, vcGrps_cons, vcGrps_guard2, vcG2_bool, vcG2_und, vcGB_TT, vcGB_FF, vcGB_TF, vcGB_FT, vcGB_Tdec, vcGB_Fdec, vcOps_nil, vcOps_cons, vcOut, KCall_ret, KCall_pan, skipF_nil, skipF_cons, Qseq_normal, Qseq_ret, Qseq_exit, Qseq_pan, Qblk_normal, Qblk_exit, Qblk_ret, Qblk_pan, Qpan_eq, Qcut_normal, Qcut_exit, Qcut_ret, Qcut_pan, Qloop_normal, Qloop_exit, Qloop_ret, Qloop_pan,
    stepOp, ev, upd_apply, putF, cellsOf, deref, faddrV, mk, abin, abinI, abinS, ibits, aeqb, aun, fldV, idxOf, elems, isPtr, putRef, splice, fillA, rowsA, minV, peqV, elemsA, rowBytes, strOf, Store.get_push, Store.get_set, Store.n_push, Store.n_set,
    Option.map_some, Option.map_none, reduceIte, Nat.reduceEqDiff, Nat.reduceAdd, Nat.reduceLeDiff, Nat.reduceLT, Nat.zero_add, Nat.add_zero, Nat.add_assoc, Nat.add_left_cancel_iff, Nat.left_eq_add, Nat.add_eq_left, Nat.lt_irrefl, Nat.le_refl,
    List.drop_zero, List.drop_succ_cons, List.take_succ_cons, List.take_zero, List.headD_cons, List.length_cons, List.length_nil, List.getElem?_cons_zero, List.getElem?_cons_succ, List.set_cons_zero, List.set_cons_succ, List.map_cons, List.map_nil,
    Bool.not_true, Bool.not_false, Bool.false_eq_true, Bool.true_eq_false, Bool.not_eq_true', Bool.not_eq_false', eq_self, false_imp_iff, true_imp_iff, and_true, true_and, and_false, false_and, or_true, true_or, initFr, fr0_at, Qend, resL, resV1, pack,
    decide_eq_true_eq, decide_eq_false_iff_not, Int.toNat_natCast, Option.some.injEq, exists_eq_left', vc_cond2, vcC2_bool, vcCB_T, vcCB_F, vcCB_dec, decide_true, decide_false]
      exact ⟨n - 1, by omega, i + 1, by omega, by simp, by simp; omega, hE⟩
    · rw [if_neg hiL]
      have e0 : ((0 : Nat) : Int) = 0 := rfl
      have e20 : ¬ ((0 : Int) = 20) := by decide
      simp -implicitDefEqProofs only [f3, f5, f6, hi1, e0, e20, ne_eq, not_true, not_false_eq_true, vc_region, vc_quiet, vcD_nil, vcD_val2, vcDO_val, vcDO_asks, vcD_eff, vcD_guard2, vcDG_TT, vcDG_FF, vcDG_TF, vcDG_FT, vcDG_und, vcDG_Tdec, vcDG_Fdec, vcDEff, saysAll, pendAll, pendNext, addPend, Says, vc_bad, vc_seq, vc_ret, vc_skip, vc_block, vc_exit, vcGrps_nil, vcGrps_cons, vcGrps_guard2, vcG2_bool, vcG2_und, vcGB_TT, vcGB_FF, vcGB_TF, vcGB_FT, vcGB_Tdec, vcGB_Fdec, vcOps_nil, vcOps_cons, vcOut, KCall_ret, KCall_pan, skipF_nil, skipF_cons, Qseq_normal, Qseq_ret, Qseq_exit, Qseq_pan, Qblk_normal, Qblk_exit, Qblk_ret, Qblk_pan, Qpan_eq, Qcut_normal, Qcut_exit, Qcut_ret, Qcut_pan, Qloop_normal, Qloop_exit, Qloop_ret, Qloop_pan,
    stepOp, ev, upd_apply, putF, cellsOf, deref, faddrV, mk, abin, abinI, abinS, ibits, aeqb, aun, fldV, idxOf, elems, isPtr, putRef, splice, fillA, rowsA, minV, peqV, elemsA, rowBytes, strOf, Store.get_push, Store.get_set, Store.n_push, Store.n_set,
    Option.map_some, Option.map_none, reduceIte, Nat.reduceEqDiff, Nat.reduceAdd, Nat.reduceLeDiff, Nat.reduceLT, Nat.zero_add, Nat.add_zero, Nat.add_assoc, Nat.add_left_cancel_iff, Nat.left_eq_add, Nat.add_eq_left, Nat.lt_irrefl, Nat.le_refl,
    List.drop_zero, List.drop_succ_cons, List.take_succ_cons, List.take_zero, List.headD_cons, List.length_cons, List.length_nil, List.getElem?_cons_zero, List.getElem?_cons_succ, List.set_cons_zero, List.set_cons_succ, List.map_cons, List.map_nil,
    Bool.not_true, Bool.not_false, Bool.false_eq_true, Bool.true_eq_false, Bool.not_eq_true', Bool.not_eq_false', eq_self, false_imp_iff, true_imp_iff, and_true, true_and, and_false, false_and, or_true, true_or, initFr, fr0_at, Qend, resL, resV1, pack,
    decide_eq_true_eq, decide_eq_false_iff_not, Int.toNat_natCast, Option.some.injEq, exists_eq_left', vc_cond2, vcC2_bool, vcCB_T, vcCB_F, vcCB_dec, decide_true, decide_false]
      intro _
      exact ⟨n - 1, by omega, i + 1, by omega, by simp, by simp; omega, hE⟩
  · have hle' : ¬ (i : Int) ≤ (putS e).length := by omega
    have hLi : L < i := by omega
    simp -implicitDefEqProofs only [f3, f5, f6, hle', hLi, vc_region, vc_quiet, vcD_nil, vcD_val2, vcDO_val, vcDO_asks, vcD_eff, vcD_guard2, vcDG_TT, vcDG_FF, vcDG_TF, vcDG_FT, vcDG_und, vcDG_Tdec, vcDG_Fdec, vcDEff, saysAll, pendAll, pendNext, addPend, Says, vc_bad, vc_seq, vc_ret, vc_skip, vc_block, vc_exit, vcGrps_nil, vcGrps_cons, vcGrps_guard2, vcG2_bool, vcG2_und, vcGB_TT, vcGB_FF, vcGB_TF, vcGB_FT, vcGB_Tdec, vcGB_Fdec, vcOps_nil, vcOps_cons, vcOut, KCall_ret, KCall_pan, skipF_nil, skipF_cons, Qseq_normal, Qseq_ret, Qseq_exit, Qseq_pan, Qblk_normal, Qblk_exit, Qblk_ret, Qblk_pan, Qpan_eq, Qcut_normal, Qcut_exit, Qcut_ret, Qcut_pan, Qloop_normal, Qloop_exit, Qloop_ret, Qloop_pan,
    stepOp, ev, upd_apply, putF, cellsOf, deref, faddrV, mk, abin, abinI, abinS, ibits, aeqb, aun, fldV, idxOf, elems, isPtr, putRef, splice, fillA, rowsA, minV, peqV, elemsA, rowBytes, strOf, Store.get_push, Store.get_set, Store.n_push, Store.n_set,
    Option.map_some, Option.map_none, reduceIte, Nat.reduceEqDiff, Nat.reduceAdd, Nat.reduceLeDiff, Nat.reduceLT, Nat.zero_add, Nat.add_zero, Nat.add_assoc, Nat.add_left_cancel_iff, Nat.left_eq_add, Nat.add_eq_left, Nat.lt_irrefl, Nat.le_refl,
    List.drop_zero, List.drop_succ_cons, List.take_succ_cons, List.take_zero, List.headD_cons, List.length_cons, List.length_nil, List.getElem?_cons_zero, List.getElem?_cons_succ, List.set_cons_zero, List.set_cons_succ, List.map_cons, List.map_nil,
    Bool.not_true, Bool.not_false, Bool.false_eq_true, Bool.true_eq_false, Bool.not_eq_true', Bool.not_eq_false', eq_self, false_imp_iff, true_imp_iff, and_true, true_and, and_false, false_and, or_true, true_or, initFr, fr0_at, Qend, resL, resV1, pack,
    decide_eq_true_eq, decide_eq_false_iff_not, Int.toNat_natCast, Option.some.injEq, exists_eq_left', vc_cond2, vcC2_bool, vcCB_T, vcCB_F, vcCB_dec, decide_true, decide_false]
    intro _
    refine c13.use ?_
    simp -implicitDefEqProofs only [f3, f5, f6, hLi, vc_region, vc_quiet, vcD_nil, vcD_val2, vcDO_val, vcDO_asks, vcD_eff, vcD_guard2, vcDG_TT, vcDG_FF, vcDG_TF, vcDG_FT, vcDG_und, vcDG_Tdec, vcDG_Fdec, vcDEff, saysAll, pendAll, pendNext, addPend, Says, vc_bad, vc_seq, vc_ret, vc_skip, vc_block, vc_exit, vcGrps_nil, vcGrps_cons, vcGrps_guard2, vcG2_bool, vcG2_und, vcGB_TT, vcGB_FF, vcGB_TF, vcGB_FT, vcGB_Tdec, vcGB_Fdec, vcOps_nil, vcOps_cons, vcOut, KCall_ret, KCall_pan, skipF_nil, skipF_cons, Qseq_normal, Qseq_ret, Qseq_exit, Qseq_pan, Qblk_normal, Qblk_exit, Qblk_ret, Qblk_pan, Qpan_eq, Qcut_normal, Qcut_exit, Qcut_ret, Qcut_pan, Qloop_normal, Qloop_exit, Qloop_ret, Qloop_pan,
    stepOp, ev, upd_apply, putF, cellsOf, deref, faddrV, mk, abin, abinI, abinS, ibits, aeqb, aun, fldV, idxOf, elems, isPtr, putRef, splice, fillA, rowsA, minV, peqV, elemsA, rowBytes, strOf, Store.get_push, Store.get_set, Store.n_push, Store.n_set,
    Option.map_some, Option.map_none, reduceIte, Nat.reduceEqDiff, Nat.reduceAdd, Nat.reduceLeDiff, Nat.reduceLT, Nat.zero_add, Nat.add_zero, Nat.add_assoc, Nat.add_left_cancel_iff, Nat.left_eq_add, Nat.add_eq_left, Nat.lt_irrefl, Nat.le_refl,
    List.drop_zero, List.drop_succ_cons, List.take_succ_cons, List.take_zero, List.headD_cons, List.length_cons, List.length_nil, List.getElem?_cons_zero, List.getElem?_cons_succ, List.set_cons_zero, List.set_cons_succ, List.map_cons, List.map_nil,
    Bool.not_true, Bool.not_false, Bool.false_eq_true, Bool.true_eq_false, Bool.not_eq_true', Bool.not_eq_false', eq_self, false_imp_iff, true_imp_iff, and_true, true_and, and_false, false_and, or_true, true_or, initFr, fr0_at, Qend, resL, resV1, pack,
    decide_eq_true_eq, decide_eq_false_iff_not, Int.toNat_natCast, Option.some.injEq, exists_eq_left', vc_cond2, vcC2_bool, vcCB_T, vcCB_F, vcCB_dec, decide_true, decide_false]
    exact hE
end Go.Proofs.Ytmlllckecalaaaa.Eng

namespace Go.Proofs.Ytmlllckecalaaaa.Eng
open Go Go.Proofs.Try

/-! ## A number with a sign out of bytes -/
def sv0 (l : List UInt8) : Int := if (l.headD 0).toNat ≥ 128 then -1 else 0
theorem sv0_cons (c : UInt8) (l : List UInt8) : sv0 (c :: l) = if c.toNat ≥ 128 then -1 else 0 := rfl
def svF (a : Int) (l : List UInt8) : Int := l.foldl (fun v b => v * 256 + (b.toNat : Int)) a
def sv (l : List UInt8) : Int := svF (sv0 l) l
theorem svF_app (a : Int) (l : List UInt8) (b : UInt8) : svF a (l ++ [b]) = svF a l * 256 + b.toNat := by simp [svF, List.foldl_append]
theorem svF_lt (a : Int) : ∀ (l : List UInt8), a * 256 ^ l.length ≤ svF a l ∧ svF a l < (a + 1) * 256 ^ l.length := by
  intro l
  obtain ⟨n, hn⟩ : ∃ n, n = l.length := ⟨_, rfl⟩
  induction n generalizing l with
  | zero => rw [List.eq_nil_of_length_eq_zero hn.symm]; simp [svF]; omega
  | succ n ih =>
    obtain ⟨c, b, rfl⟩ : ∃ a b, l = a ++ [b] := ⟨l.dropLast, l.getLast (by intro h; simp [h] at hn), (List.dropLast_concat_getLast _).symm⟩
    obtain ⟨h1, h2⟩ := ih c (by simp at hn; omega)
    have hb := b.toNat_lt
    rw [svF_app, List.length_append, List.length_singleton, Int.pow_succ, ← Int.mul_assoc, ← Int.mul_assoc]
    omega
theorem sv_bound (l : List UInt8) (i : Nat) (h1 : 1 ≤ i) (h : i ≤ l.length) : -(128 * 256 ^ (i - 1)) ≤ svF (sv0 l) (l.take i) ∧ svF (sv0 l) (l.take i) < 128 * 256 ^ (i - 1) := by
  match l with
  | [] => simp at h; omega
  | c :: l =>
    obtain ⟨j, rfl⟩ : ∃ j, i = j + 1 := ⟨i - 1, by omega⟩
    have hb := c.toNat_lt
    rw [List.take_succ_cons, svF, List.foldl_cons]
    have := svF_lt (sv0 (c :: l) * 256 + c.toNat) (l.take j)
    rw [List.length_take, Nat.min_eq_left (by simp at h; omega)] at this
    unfold svF at this
    have hc : -128 ≤ sv0 (c :: l) * 256 + (c.toNat : Int) ∧ sv0 (c :: l) * 256 + (c.toNat : Int) + 1 ≤ 128 := by
      rw [sv0_cons]
      by_cases h128 : c.toNat ≥ 128
      · rw [if_pos h128]; omega
      · rw [if_neg h128]; omega
    have hp : (0 : Int) ≤ 256 ^ j := Int.le_of_lt (Int.pow_pos (by decide))
    have k1 := Int.mul_le_mul_of_nonneg_right hc.1 hp
    have k2 := Int.mul_le_mul_of_nonneg_right hc.2 hp
    rw [Nat.add_sub_cancel]
    omega
theorem pow256i (n : Nat) (h : n ≤ 7) : (256 : Int) ^ n ≤ 72057594037927936 := by
  have : n = 0 ∨ n = 1 ∨ n = 2 ∨ n = 3 ∨ n = 4 ∨ n = 5 ∨ n = 6 ∨ n = 7 := by omega
  rcases this with rfl | rfl | rfl | rfl | rfl | rfl | rfl | rfl <;> decide
theorem sv_range (l : List UInt8) (i : Nat) (h1 : 1 ≤ i) (h : i ≤ l.length) (h8 : i ≤ 8) : i64ok (svF (sv0 l) (l.take i)) := by
  have := sv_bound l i h1 h
  have := pow256i (i - 1) (by omega)
  unfold i64ok; omega
theorem or_int (v : Int) (b : Nat) (h : -36028797018963968 ≤ v ∧ v < 36028797018963968) (hb : b < 256) :
    IntKind.i64.wrap ((BitVec.ofInt IntKind.i64.bits (v * 256) ||| BitVec.ofInt IntKind.i64.bits b).toNat : Int) = v * 256 + b := by
  have hbits : IntKind.i64.bits = 64 := rfl
  rw [hbits, BitVec.toNat_or, BitVec.toNat_ofInt, BitVec.toNat_ofInt]
  have e1 : ((v * 256 : Int) % ((2 ^ 64 : Nat) : Int)).toNat = (v % 72057594037927936).toNat * 256 := by omega
  have e2 : ((b : Int) % ((2 ^ 64 : Nat) : Int)).toNat = b := by omega
  have := Nat.shiftLeft_add_eq_or_of_lt (b := b) (i := 8) hb (v % 72057594037927936).toNat
  rw [Nat.shiftLeft_eq] at this
  rw [e1, e2, show (256 : Nat) = 2 ^ 8 from rfl, ← this, IntKind.wrap_i64]
  omega
theorem i8_wrap (b : UInt8) (l : List UInt8) : IntKind.i8.wrap (b.toNat : Int) = sv0 (b :: l) * 256 + b.toNat := by
  have h : ∀ c : Fin 256, IntKind.i8.wrap (c.val : Int) = (if c.val ≥ 128 then -1 else 0) * 256 + c.val := by decide +kernel
  exact h ⟨b.toNat, b.toNat_lt⟩

theorem c56 (l : List UInt8) : Pure prog 56 [.str l] (.tup [.int .i64 (if 1 ≤ l.length ∧ l.length ≤ 8 then sv l else 0), .int .i64 (if 1 ≤ l.length ∧ l.length ≤ 8 then 0 else 1)]) := by
  refine Pure.of (fun _ _ => by simp only [nm, nmL, and_self]) fun S => acalls_of_vc low56 (by simp) ?_
  have hx := Ext.refl S
  by_cases h1 : l.length < 1
  · have h1' : (l.length : Int) < 1 := by omega
    rw [if_neg (by omega), if_neg (by omega)]
    simp -implicitDefEqProofs only [B56, h1', vc_region, vc_quiet, vcD_nil, vcD_val2, vcDO_val, vcDO_asks, vcD_eff, vcD_guard2, vcDG_TT, vcDG_FF, vcDG_TF, vcDG_FT, vcDG_und, vcDG_Tdec, vcDG_Fdec, vcDEff, saysAll, pendAll, pendNext, addPend, Says, vc_bad, vc_seq, vc_ret, vc_skip, vc_block, vc_exit, vcGrps_nil, vcGrps_cons, vcGrps_guard2, vcG2_bool, vcG2_und, vcGB_TT, vcGB_FF, vcGB_TF, vcGB_FT, vcGB_Tdec, vcGB_Fdec, vcOps_nil, vcOps_cons, vcOut, KCall_ret, KCall_pan, skipF_nil, skipF_cons, Qseq_normal, Qseq_ret, Qseq_exit, Qseq_pan, Qblk_normal, Qblk_exit, Qblk_ret, Qblk_pan, Qpan_eq, Qcut_normal, Qcut_exit, Qcut_ret, Qcut_pan, Qloop_normal, Qloop_exit, Qloop_ret, Qloop_pan,
    stepOp, ev, upd_apply, putF, cellsOf, deref, faddrV, mk, abin, abinI, abinS, ibits, aeqb, aun, fldV, idxOf, elems, isPtr, putRef, splice, fillA, rowsA, minV, peqV, elemsA, rowBytes, strOf, Store.get_push, Store.get_set, Store.n_push, Store.n_set,
    Option.map_some, Option.map_none, reduceIte, Nat.reduceEqDiff, Nat.reduceAdd, Nat.reduceLeDiff, Nat.reduceLT, Nat.zero_add, Nat.add_zero, Nat.add_assoc, Nat.add_left_cancel_iff, Nat.left_eq_add, Nat.add_eq_left, Nat.lt_irrefl, Nat.le_refl,
    List.drop_zero, List.drop_succ_cons, List.take_succ_cons, List.take_zero, List.headD_cons, List.length_cons, List.length_nil, List.getElem?_cons_zero, List.getElem?_cons_succ, List.set_cons_zero, List.set_cons_succ, List.map_cons, List.map_nil,
    Bool.not_true, Bool.not_false, Bool.false_eq_true, Bool.true_eq_false, Bool.not_eq_true', Bool.not_eq_false', eq_self, false_imp_iff, true_imp_iff, and_true, true_and, and_false, false_and, or_true, true_or, initFr, fr0_at, Qend, resL, resV1, pack,
    decide_eq_true_eq, decide_eq_false_iff_not, Int.toNat_natCast, Option.some.injEq, exists_eq_left', vc_cond2, vcC2_bool, vcCB_T, vcCB_F, vcCB_dec, decide_true, decide_false]
    exact fun _ => hx
  have g1 : ¬ (l.length : Int) < 1 := by omega
  by_cases h8 : l.length > 8
  · have h8' : (l.length : Int) > 8 := by omega
    rw [if_neg (by omega), if_neg (by omega)]
    simp -implicitDefEqProofs only [B56, g1, h8', vc_region, vc_quiet, vcD_nil, vcD_val2, vcDO_val, vcDO_asks, vcD_eff, vcD_guard2, vcDG_TT, vcDG_FF, vcDG_TF, vcDG_FT, vcDG_und, vcDG_Tdec, vcDG_Fdec, vcDEff, saysAll, pendAll, pendNext, addPend, Says, vc_bad, vc_seq, vc_ret, vc_skip, vc_block, vc_exit, vcGrps_nil, vcGrps_cons, vcGrps_guard2, vcG2_bool, vcG2_und, vcGB_TT, vcGB_FF, vcGB_TF, vcGB_FT, vcGB_Tdec, vcGB_Fdec, vcOps_nil, vcOps_cons, vcOut, KCall_ret, KCall_pan, skipF_nil, skipF_cons, Qseq_normal, Qseq_ret, Qseq_exit, Qseq_pan, Qblk_normal, Qblk_exit, Qblk_ret, Qblk_pan, Qpan_eq, Qcut_normal, Qcut_exit, Qcut_ret, Qcut_pan, Qloop_normal, Qloop_exit, Qloop_ret, Qloop_pan,
    stepOp, ev, upd_apply, putF, cellsOf, deref, faddrV, mk, abin, abinI, abinS, ibits, aeqb, aun, fldV, idxOf, elems, isPtr, putRef, splice, fillA, rowsA, minV, peqV, elemsA, rowBytes, strOf, Store.get_push, Store.get_set, Store.n_push, Store.n_set,
    Option.map_some, Option.map_none, reduceIte, Nat.reduceEqDiff, Nat.reduceAdd, Nat.reduceLeDiff, Nat.reduceLT, Nat.zero_add, Nat.add_zero, Nat.add_assoc, Nat.add_left_cancel_iff, Nat.left_eq_add, Nat.add_eq_left, Nat.lt_irrefl, Nat.le_refl,
    List.drop_zero, List.drop_succ_cons, List.take_succ_cons, List.take_zero, List.headD_cons, List.length_cons, List.length_nil, List.getElem?_cons_zero, List.getElem?_cons_succ, List.set_cons_zero, List.set_cons_succ, List.map_cons, List.map_nil,
    Bool.not_true, Bool.not_false, Bool.false_eq_true, Bool.true_eq_false, Bool.not_eq_true', Bool.not_eq_false', eq_self, false_imp_iff, true_imp_iff, and_true, true_and, and_false, false_and, or_true, true_or, initFr, fr0_at, Qend, resL, resV1, pack,
    decide_eq_true_eq, decide_eq_false_iff_not, Int.toNat_natCast, Option.some.injEq, exists_eq_left', vc_cond2, vcC2_bool, vcCB_T, vcCB_F, vcCB_dec, decide_true, decide_false]
    exact fun _ _ => hx
  have g8 : ¬ (l.length : Int) > 8 := by omega
  rw [if_pos (by omega), if_pos (by omega)]
  obtain ⟨c, r, rfl⟩ : ∃ c r, l = c :: r := by
    cases l with
    | nil => simp at h1
    | cons c r => exact ⟨c, r, rfl⟩
  generalize hll : c :: r = l at h1 g1 h8 g8 ⊢
  have hl0 : l[Int.toNat 0]? = some c := by rw [← hll]; rfl
  have hsv1 : svF (sv0 l) (l.take 1) = sv0 l * 256 + c.toNat := by rw [← hll]; simp [svF]
  have hi8 : IntKind.i8.wrap (c.toNat : Int) = svF (sv0 l) (l.take 1) := by rw [hsv1, ← hll]; exact i8_wrap c r
  have hi64 : IntKind.i64.wrap (svF (sv0 l) (l.take 1)) = svF (sv0 l) (l.take 1) := by
    have := sv_range l 1 (by omega) (by omega) (by omega)
    exact w64 _ this.1 this.2
  have h00 : (0 : Int) ≤ 0 := by decide
  simp -implicitDefEqProofs only [B56, g1, g8, hl0, hi8, hi64, h00, vc_region, vc_quiet, vcD_nil, vcD_val2, vcDO_val, vcDO_asks, vcD_eff, vcD_guard2, vcDG_TT, vcDG_FF, vcDG_TF, vcDG_FT, vcDG_und, vcDG_Tdec, vcDG_Fdec, vcDEff, saysAll, pendAll, pendNext, addPend, Says, vc_bad, vc_seq, vc_ret, vc_skip, vc_block, vc_exit, vcGrps_nil, vcGrps_cons, vcGrps_guard2, vcG2_bool, vcG2_und, vcGB_TT, vcGB_FF, vcGB_TF, vcGB_FT, vcGB_Tdec, vcGB_Fdec, vcOps_nil, vcOps_cons, vcOut, KCall_ret, KCall_pan, skipF_nil, skipF_cons, Qseq_normal, Qseq_ret, Qseq_exit, Qseq_pan, Qblk_normal, Qblk_exit, Qblk_ret, Qblk_pan, Qpan_eq, Qcut_normal, Qcut_exit, Qcut_ret, Qcut_pan, Qloop_normal, Qloop_exit, Qloop_ret, Qloop_pan,
    stepOp, ev, upd_apply, putF, cellsOf, deref, faddrV, mk, abin, abinI, abinS, ibits, aeqb, aun, fldV, idxOf, elems, isPtr, putRef, splice, fillA, rowsA, minV, peqV, elemsA, rowBytes, strOf, Store.get_push, Store.get_set, Store.n_push, Store.n_set,
    Option.map_some, Option.map_none, reduceIte, Nat.reduceEqDiff, Nat.reduceAdd, Nat.reduceLeDiff, Nat.reduceLT, Nat.zero_add, Nat.add_zero, Nat.add_assoc, Nat.add_left_cancel_iff, Nat.left_eq_add, Nat.add_eq_left, Nat.lt_irrefl, Nat.le_refl,
    List.drop_zero, List.drop_succ_cons, List.take_succ_cons, List.take_zero, List.headD_cons, List.length_cons, List.length_nil, List.getElem?_cons_zero, List.getElem?_cons_succ, List.set_cons_zero, List.set_cons_succ, List.map_cons, List.map_nil,
    Bool.not_true, Bool.not_false, Bool.false_eq_true, Bool.true_eq_false, Bool.not_eq_true', Bool.not_eq_false', eq_self, false_imp_iff, true_imp_iff, and_true, true_and, and_false, false_and, or_true, true_or, initFr, fr0_at, Qend, resL, resV1, pack,
    decide_eq_true_eq, decide_eq_false_iff_not, Int.toNat_natCast, Option.some.injEq, exists_eq_left', vc_cond2, vcC2_bool, vcCB_T, vcCB_F, vcCB_dec, decide_true, decide_false]
  intro _ _
  refine vc_loop (fun n fr T => ∃ i : Nat, i + n = l.length ∧ 1 ≤ i ∧ fr 0 = .str l ∧ fr 5 = .int .i64 i ∧ fr 4 = .int .i64 (svF (sv0 l) (l.take i)) ∧ T = S) (l.length - 1) ⟨1, by omega, by omega, by simp [upd_apply], by simp [upd_apply], by simp [upd_apply], rfl⟩ ?_
  rintro n fr T ⟨i, hin, hi1, f0, f5, f4, rfl⟩
  by_cases hlt : i < l.length
  · obtain ⟨b, hb⟩ : ∃ b, l[i]? = some b := ⟨_, List.getElem?_eq_getElem hlt⟩
    have h0 : (0 : Int) ≤ i := by omega
    have hlt' : (i : Int) < l.length := by omega
    have hw1 : IntKind.i64.wrap ((i : Int) + 1) = i + 1 := w64 _ (by omega) (by omega)
    have hv := sv_bound l i hi1 (by omega)
    have hp := pow256i (i - 1) (by omega)
    have hp6 : (256 : Int) ^ (i - 1) ≤ 281474976710656 := by
      have : i - 1 = 0 ∨ i - 1 = 1 ∨ i - 1 = 2 ∨ i - 1 = 3 ∨ i - 1 = 4 ∨ i - 1 = 5 ∨ i - 1 = 6 := by omega
      rcases this with h | h | h | h | h | h | h <;> rw [h] <;> decide
    have hsh : IntKind.i64.wrap (svF (sv0 l) (l.take i) * 2 ^ min (Int.toNat 8) IntKind.i64.bits) = svF (sv0 l) (l.take i) * 256 := by
      have e8 : (2 : Int) ^ min (Int.toNat 8) IntKind.i64.bits = 256 := rfl
      rw [e8, w64 _ (by omega) (by omega)]
    have hwb : IntKind.i64.wrap (b.toNat : Int) = b.toNat := w64 _ (by omega) (by have := b.toNat_lt; omega)
    have hor := or_int (svF (sv0 l) (l.take i)) b.toNat (by omega) b.toNat_lt
    have h08 : ¬ (8 : Int) < 0 := by decide
    simp -implicitDefEqProofs only [f0, f5, f4, ashift, hlt', h0, h08, hb, hw1, hsh, hwb, hor, vc_region, vc_quiet, vcD_nil, vcD_val2, vcDO_val, vcDO_asks, vcD_eff, vcD_guard2, vcDG_TT, vcDG_FF, vcDG_TF, vcDG_FT, vcDG_und, vcDG_Tdec, vcDG_Fdec, vcDEff, saysAll, pendAll, pendNext, addPend, Says, vc_bad, vc_seq, vc_ret, vc_skip, vc_block, vc_exit, vcGrps_nil, vcGrps_cons, vcGrps_guard2, vcG2_bool, vcG2_und, vcGB_TT, vcGB_FF, vcGB_TF, vcGB_FT, vcGB_Tdec, vcGB_Fdec, vcOps_nil, vcOps_cons, vcOut, KCall_ret, KCall_pan, skipF_nil, skipF_cons, Qseq_normal, Qseq_ret, Qseq_exit, Qseq_pan, Qblk_normal, Qblk_exit, Qblk_ret, Qblk_pan, Qpan_eq, Qcut_normal, Qcut_exit, Qcut_ret, Qcut_pan, Qloop_normal, Qloop_exit, Qloop_ret, Qloop_pan,
    stepOp, ev, upd_apply, putF, cellsOf, deref, faddrV, mk, abin, abinI, abinS, ibits, aeqb, aun, fldV, idxOf, elems, isPtr, putRef, splice, fillA, rowsA, minV, peqV, elemsA, rowBytes, strOf, Store.get_push, Store.get_set, Store.n_push, Store.n_set,
    Option.map_some, Option.map_none, reduceIte, Nat.reduceEqDiff, Nat.reduceAdd, Nat.reduceLeDiff, Nat.reduceLT, Nat.zero_add, Nat.add_zero, Nat.add_assoc, Nat.add_left_cancel_iff, Nat.left_eq_add, Nat.add_eq_left, Nat.lt_irrefl, Nat.le_refl,
    List.drop_zero, List.drop_succ_cons, List.take_succ_cons, List.take_zero, List.headD_cons, List.length_cons, List.length_nil, List.getElem?_cons_zero, List.getElem?_cons_succ, List.set_cons_zero, List.set_cons_succ, List.map_cons, List.map_nil,
    Bool.not_true, Bool.not_false, Bool.false_eq_true, Bool.true_eq_false, Bool.not_eq_true', Bool.not_eq_false', eq_self, false_imp_iff, true_imp_iff, and_true, true_and, and_false, false_and, or_true, true_or, initFr, fr0_at, Qend, resL, resV1, pack,
    decide_eq_true_eq, decide_eq_false_iff_not, Int.toNat_natCast, Option.some.injEq, exists_eq_left', vc_cond2, vcC2_bool, vcCB_T, vcCB_F, vcCB_dec, decide_true, decide_false]
    exact fun _ => ⟨n - 1, by omega, i + 1, by omega, by omega, by simp, by rw [take_get hb, svF_app]⟩
  · have hlt' : ¬ (i : Int) < l.length := by omega
    have hi : i = l.length := by omega
    rw [hi, List.take_length] at f4
    simp -implicitDefEqProofs only [f0, f5, f4, hlt', vc_region, vc_quiet, vcD_nil, vcD_val2, vcDO_val, vcDO_asks, vcD_eff, vcD_guard2, vcDG_TT, vcDG_FF, vcDG_TF, vcDG_FT, vcDG_und, vcDG_Tdec, vcDG_Fdec, vcDEff, saysAll, pendAll, pendNext, addPend, Says, vc_bad, vc_seq, vc_ret, vc_skip, vc_block, vc_exit, vcGrps_nil, vcGrps_cons, vcGrps_guard2, vcG2_bool, vcG2_und, vcGB_TT, vcGB_FF, vcGB_TF, vcGB_FT, vcGB_Tdec, vcGB_Fdec, vcOps_nil, vcOps_cons, vcOut, KCall_ret, KCall_pan, skipF_nil, skipF_cons, Qseq_normal, Qseq_ret, Qseq_exit, Qseq_pan, Qblk_normal, Qblk_exit, Qblk_ret, Qblk_pan, Qpan_eq, Qcut_normal, Qcut_exit, Qcut_ret, Qcut_pan, Qloop_normal, Qloop_exit, Qloop_ret, Qloop_pan,
    stepOp, ev, upd_apply, putF, cellsOf, deref, faddrV, mk, abin, abinI, abinS, ibits, aeqb, aun, fldV, idxOf, elems, isPtr, putRef, splice, fillA, rowsA, minV, peqV, elemsA, rowBytes, strOf, Store.get_push, Store.get_set, Store.n_push, Store.n_set,
    Option.map_some, Option.map_none, reduceIte, Nat.reduceEqDiff, Nat.reduceAdd, Nat.reduceLeDiff, Nat.reduceLT, Nat.zero_add, Nat.add_zero, Nat.add_assoc, Nat.add_left_cancel_iff, Nat.left_eq_add, Nat.add_eq_left, Nat.lt_irrefl, Nat.le_refl,
    List.drop_zero, List.drop_succ_cons, List.take_succ_cons, List.take_zero, List.headD_cons, List.length_cons, List.length_nil, List.getElem?_cons_zero, List.getElem?_cons_succ, List.set_cons_zero, List.set_cons_succ, List.map_cons, List.map_nil,
    Bool.not_true, Bool.not_false, Bool.false_eq_true, Bool.true_eq_false, Bool.not_eq_true', Bool.not_eq_false', eq_self, false_imp_iff, true_imp_iff, and_true, true_and, and_false, false_and, or_true, true_or, initFr, fr0_at, Qend, resL, resV1, pack,
    decide_eq_true_eq, decide_eq_false_iff_not, Int.toNat_natCast, Option.some.injEq, exists_eq_left', vc_cond2, vcC2_bool, vcCB_T, vcCB_F, vcCB_dec, decide_true, decide_false]
    exact fun _ => ⟨rfl, hx⟩

theorem c59 (l : List UInt8) (h1 : 1 ≤ l.length) (h8 : l.length ≤ 8) : Pure prog 59 [.str l] (.tup [.int .i64 (sv l), .int .i64 0]) := by
  refine Pure.of (fun _ _ => by simp only [nm, nmL, and_self]) fun S => acalls_of_vc low59 (by simp) ?_
  have hx := Ext.refl S
  have g1 : ¬ (l.length : Int) < 1 := by omega
  have g8 : ¬ (l.length : Int) > 8 := by omega
  obtain ⟨c, r, rfl⟩ : ∃ c r, l = c :: r := by
    cases l with
    | nil => simp at h1
    | cons c r => exact ⟨c, r, rfl⟩
  generalize hll : c :: r = l at h1 g1 h8 g8 ⊢
  have hl0 : l[Int.toNat 0]? = some c := by rw [← hll]; rfl
  have h00 : (0 : Int) ≤ 0 := by decide
  have hs0 : sv0 l = if c.toNat ≥ 128 then -1 else 0 := by rw [← hll]; rfl
  unfold B59
  refine vc_cut (fun fr T => fr 0 = .str l ∧ T = S) (by simp -implicitDefEqProofs only [vc_region, vc_quiet, vcD_nil, vcD_val2, vcDO_val, vcDO_asks, vcD_eff, vcD_guard2, vcDG_TT, vcDG_FF, vcDG_TF, vcDG_FT, vcDG_und, vcDG_Tdec, vcDG_Fdec, vcDEff, saysAll, pendAll, pendNext, addPend, Says, vc_bad, vc_seq, vc_ret, vc_skip, vc_block, vc_exit, vcGrps_nil, vcGrps_cons, vcGrps_guard2, vcG2_bool, vcG2_und, vcGB_TT, vcGB_FF, vcGB_TF, vcGB_FT, vcGB_Tdec, vcGB_Fdec, vcOps_nil, vcOps_cons, vcOut, KCall_ret, KCall_pan, skipF_nil, skipF_cons, Qseq_normal, Qseq_ret, Qseq_exit, Qseq_pan, Qblk_normal, Qblk_exit, Qblk_ret, Qblk_pan, Qpan_eq, Qcut_normal, Qcut_exit, Qcut_ret, Qcut_pan, Qloop_normal, Qloop_exit, Qloop_ret, Qloop_pan,
    stepOp, ev, upd_apply, putF, cellsOf, deref, faddrV, mk, abin, abinI, abinS, ibits, aeqb, aun, fldV, idxOf, elems, isPtr, putRef, splice, fillA, rowsA, minV, peqV, elemsA, rowBytes, strOf, Store.get_push, Store.get_set, Store.n_push, Store.n_set,
    Option.map_some, Option.map_none, reduceIte, Nat.reduceEqDiff, Nat.reduceAdd, Nat.reduceLeDiff, Nat.reduceLT, Nat.zero_add, Nat.add_zero, Nat.add_assoc, Nat.add_left_cancel_iff, Nat.left_eq_add, Nat.add_eq_left, Nat.lt_irrefl, Nat.le_refl,
    List.drop_zero, List.drop_succ_cons, List.take_succ_cons, List.take_zero, List.headD_cons, List.length_cons, List.length_nil, List.getElem?_cons_zero, List.getElem?_cons_succ, List.set_cons_zero, List.set_cons_succ, List.map_cons, List.map_nil,
    Bool.not_true, Bool.not_false, Bool.false_eq_true, Bool.true_eq_false, Bool.not_eq_true', Bool.not_eq_false', eq_self, false_imp_iff, true_imp_iff, and_true, true_and, and_false, false_and, or_true, true_or, initFr, fr0_at, Qend, resL, resV1, pack,
    decide_eq_true_eq, decide_eq_false_iff_not, Int.toNat_natCast, Option.some.injEq, exists_eq_left', vc_cond2, vcC2_bool, vcCB_T, vcCB_F, vcCB_dec, decide_true, decide_false]) ?_
  rintro fr T ⟨f0, rfl⟩
  refine vc_cut (fun fr U => fr 0 = .str l ∧ U = T) (by simp -implicitDefEqProofs only [f0, g1, g8, vc_region, vc_quiet, vcD_nil, vcD_val2, vcDO_val, vcDO_asks, vcD_eff, vcD_guard2, vcDG_TT, vcDG_FF, vcDG_TF, vcDG_FT, vcDG_und, vcDG_Tdec, vcDG_Fdec, vcDEff, saysAll, pendAll, pendNext, addPend, Says, vc_bad, vc_seq, vc_ret, vc_skip, vc_block, vc_exit, vcGrps_nil, vcGrps_cons, vcGrps_guard2, vcG2_bool, vcG2_und, vcGB_TT, vcGB_FF, vcGB_TF, vcGB_FT, vcGB_Tdec, vcGB_Fdec, vcOps_nil, vcOps_cons, vcOut, KCall_ret, KCall_pan, skipF_nil, skipF_cons, Qseq_normal, Qseq_ret, Qseq_exit, Qseq_pan, Qblk_normal, Qblk_exit, Qblk_ret, Qblk_pan, Qpan_eq, Qcut_normal, Qcut_exit, Qcut_ret, Qcut_pan, Qloop_normal, Qloop_exit, Qloop_ret, Qloop_pan,
    stepOp, ev, upd_apply, putF, cellsOf, deref, faddrV, mk, abin, abinI, abinS, ibits, aeqb, aun, fldV, idxOf, elems, isPtr, putRef, splice, fillA, rowsA, minV, peqV, elemsA, rowBytes, strOf, Store.get_push, Store.get_set, Store.n_push, Store.n_set,
    Option.map_some, Option.map_none, reduceIte, Nat.reduceEqDiff, Nat.reduceAdd, Nat.reduceLeDiff, Nat.reduceLT, Nat.zero_add, Nat.add_zero, Nat.add_assoc, Nat.add_left_cancel_iff, Nat.left_eq_add, Nat.add_eq_left, Nat.lt_irrefl, Nat.le_refl,
    List.drop_zero, List.drop_succ_cons, List.take_succ_cons, List.take_zero, List.headD_cons, List.length_cons, List.length_nil, List.getElem?_cons_zero, List.getElem?_cons_succ, List.set_cons_zero, List.set_cons_succ, List.map_cons, List.map_nil,
    Bool.not_true, Bool.not_false, Bool.false_eq_true, Bool.true_eq_false, Bool.not_eq_true', Bool.not_eq_false', eq_self, false_imp_iff, true_imp_iff, and_true, true_and, and_false, false_and, or_true, true_or, initFr, fr0_at, Qend, resL, resV1, pack,
    decide_eq_true_eq, decide_eq_false_iff_not, Int.toNat_natCast, Option.some.injEq, exists_eq_left', vc_cond2, vcC2_bool, vcCB_T, vcCB_F, vcCB_dec, decide_true, decide_false]; exact fun _ _ => trivial) ?_
  clear f0 fr
  rintro fr U ⟨f0, rfl⟩
  refine vc_cut (fun fr T => fr 0 = .str l ∧ fr 4 = .int .i64 0 ∧ T = U) (by simp -implicitDefEqProofs only [f0, vc_region, vc_quiet, vcD_nil, vcD_val2, vcDO_val, vcDO_asks, vcD_eff, vcD_guard2, vcDG_TT, vcDG_FF, vcDG_TF, vcDG_FT, vcDG_und, vcDG_Tdec, vcDG_Fdec, vcDEff, saysAll, pendAll, pendNext, addPend, Says, vc_bad, vc_seq, vc_ret, vc_skip, vc_block, vc_exit, vcGrps_nil, vcGrps_cons, vcGrps_guard2, vcG2_bool, vcG2_und, vcGB_TT, vcGB_FF, vcGB_TF, vcGB_FT, vcGB_Tdec, vcGB_Fdec, vcOps_nil, vcOps_cons, vcOut, KCall_ret, KCall_pan, skipF_nil, skipF_cons, Qseq_normal, Qseq_ret, Qseq_exit, Qseq_pan, Qblk_normal, Qblk_exit, Qblk_ret, Qblk_pan, Qpan_eq, Qcut_normal, Qcut_exit, Qcut_ret, Qcut_pan, Qloop_normal, Qloop_exit, Qloop_ret, Qloop_pan,
    stepOp, ev, upd_apply, putF, cellsOf, deref, faddrV, mk, abin, abinI, abinS, ibits, aeqb, aun, fldV, idxOf, elems, isPtr, putRef, splice, fillA, rowsA, minV, peqV, elemsA, rowBytes, strOf, Store.get_push, Store.get_set, Store.n_push, Store.n_set,
    Option.map_some, Option.map_none, reduceIte, Nat.reduceEqDiff, Nat.reduceAdd, Nat.reduceLeDiff, Nat.reduceLT, Nat.zero_add, Nat.add_zero, Nat.add_assoc, Nat.add_left_cancel_iff, Nat.left_eq_add, Nat.add_eq_left, Nat.lt_irrefl, Nat.le_refl,
    List.drop_zero, List.drop_succ_cons, List.take_succ_cons, List.take_zero, List.headD_cons, List.length_cons, List.length_nil, List.getElem?_cons_zero, List.getElem?_cons_succ, List.set_cons_zero, List.set_cons_succ, List.map_cons, List.map_nil,
    Bool.not_true, Bool.not_false, Bool.false_eq_true, Bool.true_eq_false, Bool.not_eq_true', Bool.not_eq_false', eq_self, false_imp_iff, true_imp_iff, and_true, true_and, and_false, false_and, or_true, true_or, initFr, fr0_at, Qend, resL, resV1, pack,
    decide_eq_true_eq, decide_eq_false_iff_not, Int.toNat_natCast, Option.some.injEq, exists_eq_left', vc_cond2, vcC2_bool, vcCB_T, vcCB_F, vcCB_dec, decide_true, decide_false]) ?_
  clear f0 fr
  rintro fr T ⟨f0, f4, rfl⟩
  refine vc_cut (fun fr U => fr 0 = .str l ∧ fr 4 = .int .i64 (sv0 l) ∧ U = T) ?_ ?_
  · by_cases hc : c.toNat ≥ 128
    · have hc' : (c.toNat : Int) ≥ 128 := by omega
      rw [hs0, if_pos hc]
      simp -implicitDefEqProofs only [f0, f4, hl0, h00, hc', vc_region, vc_quiet, vcD_nil, vcD_val2, vcDO_val, vcDO_asks, vcD_eff, vcD_guard2, vcDG_TT, vcDG_FF, vcDG_TF, vcDG_FT, vcDG_und, vcDG_Tdec, vcDG_Fdec, vcDEff, saysAll, pendAll, pendNext, addPend, Says, vc_bad, vc_seq, vc_ret, vc_skip, vc_block, vc_exit, vcGrps_nil, vcGrps_cons, vcGrps_guard2, vcG2_bool, vcG2_und, vcGB_TT, vcGB_FF, vcGB_TF, vcGB_FT, vcGB_Tdec, vcGB_Fdec, vcOps_nil, vcOps_cons, vcOut, KCall_ret, KCall_pan, skipF_nil, skipF_cons, Qseq_normal, Qseq_ret, Qseq_exit, Qseq_pan, Qblk_normal, Qblk_exit, Qblk_ret, Qblk_pan, Qpan_eq, Qcut_normal, Qcut_exit, Qcut_ret, Qcut_pan, Qloop_normal, Qloop_exit, Qloop_ret, Qloop_pan,
    stepOp, ev, upd_apply, putF, cellsOf, deref, faddrV, mk, abin, abinI, abinS, ibits, aeqb, aun, fldV, idxOf, elems, isPtr, putRef, splice, fillA, rowsA, minV, peqV, elemsA, rowBytes, strOf, Store.get_push, Store.get_set, Store.n_push, Store.n_set,
    Option.map_some, Option.map_none, reduceIte, Nat.reduceEqDiff, Nat.reduceAdd, Nat.reduceLeDiff, Nat.reduceLT, Nat.zero_add, Nat.add_zero, Nat.add_assoc, Nat.add_left_cancel_iff, Nat.left_eq_add, Nat.add_eq_left, Nat.lt_irrefl, Nat.le_refl,
    List.drop_zero, List.drop_succ_cons, List.take_succ_cons, List.take_zero, List.headD_cons, List.length_cons, List.length_nil, List.getElem?_cons_zero, List.getElem?_cons_succ, List.set_cons_zero, List.set_cons_succ, List.map_cons, List.map_nil,
    Bool.not_true, Bool.not_false, Bool.false_eq_true, Bool.true_eq_false, Bool.not_eq_true', Bool.not_eq_false', eq_self, false_imp_iff, true_imp_iff, and_true, true_and, and_false, false_and, or_true, true_or, initFr, fr0_at, Qend, resL, resV1, pack,
    decide_eq_true_eq, decide_eq_false_iff_not, Int.toNat_natCast, Option.some.injEq, exists_eq_left', vc_cond2, vcC2_bool, vcCB_T, vcCB_F, vcCB_dec, decide_true, decide_false]
    · have hc' : ¬ (c.toNat : Int) ≥ 128 := by omega
      rw [hs0, if_neg hc]
      simp -implicitDefEqProofs only [f0, f4, hl0, h00, hc', vc_region, vc_quiet, vcD_nil, vcD_val2, vcDO_val, vcDO_asks, vcD_eff, vcD_guard2, vcDG_TT, vcDG_FF, vcDG_TF, vcDG_FT, vcDG_und, vcDG_Tdec, vcDG_Fdec, vcDEff, saysAll, pendAll, pendNext, addPend, Says, vc_bad, vc_seq, vc_ret, vc_skip, vc_block, vc_exit, vcGrps_nil, vcGrps_cons, vcGrps_guard2, vcG2_bool, vcG2_und, vcGB_TT, vcGB_FF, vcGB_TF, vcGB_FT, vcGB_Tdec, vcGB_Fdec, vcOps_nil, vcOps_cons, vcOut, KCall_ret, KCall_pan, skipF_nil, skipF_cons, Qseq_normal, Qseq_ret, Qseq_exit, Qseq_pan, Qblk_normal, Qblk_exit, Qblk_ret, Qblk_pan, Qpan_eq, Qcut_normal, Qcut_exit, Qcut_ret, Qcut_pan, Qloop_normal, Qloop_exit, Qloop_ret, Qloop_pan,
    stepOp, ev, upd_apply, putF, cellsOf, deref, faddrV, mk, abin, abinI, abinS, ibits, aeqb, aun, fldV, idxOf, elems, isPtr, putRef, splice, fillA, rowsA, minV, peqV, elemsA, rowBytes, strOf, Store.get_push, Store.get_set, Store.n_push, Store.n_set,
    Option.map_some, Option.map_none, reduceIte, Nat.reduceEqDiff, Nat.reduceAdd, Nat.reduceLeDiff, Nat.reduceLT, Nat.zero_add, Nat.add_zero, Nat.add_assoc, Nat.add_left_cancel_iff, Nat.left_eq_add, Nat.add_eq_left, Nat.lt_irrefl, Nat.le_refl,
    List.drop_zero, List.drop_succ_cons, List.take_succ_cons, List.take_zero, List.headD_cons, List.length_cons, List.length_nil, List.getElem?_cons_zero, List.getElem?_cons_succ, List.set_cons_zero, List.set_cons_succ, List.map_cons, List.map_nil,
    Bool.not_true, Bool.not_false, Bool.false_eq_true, Bool.true_eq_false, Bool.not_eq_true', Bool.not_eq_false', eq_self, false_imp_iff, true_imp_iff, and_true, true_and, and_false, false_and, or_true, true_or, initFr, fr0_at, Qend, resL, resV1, pack,
    decide_eq_true_eq, decide_eq_false_iff_not, Int.toNat_natCast, Option.some.injEq, exists_eq_left', vc_cond2, vcC2_bool, vcCB_T, vcCB_F, vcCB_dec, decide_true, decide_false]
  clear f0 f4 fr
  rintro fr U ⟨f0, f4, rfl⟩
  simp -implicitDefEqProofs only [f0, f4, vc_region, vc_quiet, vcD_nil, vcD_val2, vcDO_val, vcDO_asks, vcD_eff, vcD_guard2, vcDG_TT, vcDG_FF, vcDG_TF, vcDG_FT, vcDG_und, vcDG_Tdec, vcDG_Fdec, vcDEff, saysAll, pendAll, pendNext, addPend, Says, vc_bad, vc_seq, vc_ret, vc_skip, vc_block, vc_exit, vcGrps_nil, vcGrps_cons, vcGrps_guard2, vcG2_bool, vcG2_und, vcGB_TT, vcGB_FF, vcGB_TF, vcGB_FT, vcGB_Tdec, vcGB_Fdec, vcOps_nil, vcOps_cons, vcOut, KCall_ret, KCall_pan, skipF_nil, skipF_cons, Qseq_normal, Qseq_ret, Qseq_exit, Qseq_pan, Qblk_normal, Qblk_exit, Qblk_ret, Qblk_pan, Qpan_eq, Qcut_normal, Qcut_exit, Qcut_ret, Qcut_pan, Qloop_normal, Qloop_exit, Qloop_ret, Qloop_pan,
    stepOp, ev, upd_apply, putF, cellsOf, deref, faddrV, mk, abin, abinI, abinS, ibits, aeqb, aun, fldV, idxOf, elems, isPtr, putRef, splice, fillA, rowsA, minV, peqV, elemsA, rowBytes, strOf, Store.get_push, Store.get_set, Store.n_push, Store.n_set,
    Option.map_some, Option.map_none, reduceIte, Nat.reduceEqDiff, Nat.reduceAdd, Nat.reduceLeDiff, Nat.reduceLT, Nat.zero_add, Nat.add_zero, Nat.add_assoc, Nat.add_left_cancel_iff, Nat.left_eq_add, Nat.add_eq_left, Nat.lt_irrefl, Nat.le_refl,
    List.drop_zero, List.drop_succ_cons, List.take_succ_cons, List.take_zero, List.headD_cons, List.length_cons, List.length_nil, List.getElem?_cons_zero, List.getElem?_cons_succ, List.set_cons_zero, List.set_cons_succ, List.map_cons, List.map_nil,
    Bool.not_true, Bool.not_false, Bool.false_eq_true, Bool.true_eq_false, Bool.not_eq_true', Bool.not_eq_false', eq_self, false_imp_iff, true_imp_iff, and_true, true_and, and_false, false_and, or_true, true_or, initFr, fr0_at, Qend, resL, resV1, pack,
    decide_eq_true_eq, decide_eq_false_iff_not, Int.toNat_natCast, Option.some.injEq, exists_eq_left', vc_cond2, vcC2_bool, vcCB_T, vcCB_F, vcCB_dec, decide_true, decide_false]
  refine vc_loop (fun n fr T => ∃ i : Nat, i + n = l.length ∧ fr 0 = .str l ∧ fr 5 = .int .i64 i ∧ fr 4 = .int .i64 (svF (sv0 l) (l.take i)) ∧ T = U) l.length ⟨0, by omega, by simp [upd_apply, f0], by simp [upd_apply], by simp [upd_apply, f4, svF], rfl⟩ ?_
  clear f0 f4 fr
  rintro n fr T ⟨i, hin, f0, f5, f4, rfl⟩
  by_cases hlt : i < l.length
  · obtain ⟨b, hb⟩ : ∃ b, l[i]? = some b := ⟨_, List.getElem?_eq_getElem hlt⟩
    have h0 : (0 : Int) ≤ i := by omega
    have hlt' : (i : Int) < l.length := by omega
    have hw1 : IntKind.i64.wrap ((i : Int) + 1) = i + 1 := w64 _ (by omega) (by omega)
    have hbl := b.toNat_lt
    have hnext := sv_range l (i + 1) (by omega) (by omega) (by omega)
    rw [take_get hb, svF_app] at hnext
    have hm : i64ok (svF (sv0 l) (l.take i) * 256) := by
      by_cases hi0 : i = 0
      · subst hi0; simp only [List.take_zero, svF, List.foldl_nil, hs0]; unfold i64ok; split <;> omega
      · have hv := sv_bound l i (by omega) (by omega)
        have hp6 : (256 : Int) ^ (i - 1) ≤ 281474976710656 := by
          have : i - 1 = 0 ∨ i - 1 = 1 ∨ i - 1 = 2 ∨ i - 1 = 3 ∨ i - 1 = 4 ∨ i - 1 = 5 ∨ i - 1 = 6 := by omega
          rcases this with h | h | h | h | h | h | h <;> rw [h] <;> decide
        unfold i64ok; omega
    have hmul := w64 _ hm.1 hm.2
    have hadd := w64 _ hnext.1 hnext.2
    have hwb : IntKind.i64.wrap (b.toNat : Int) = b.toNat := w64 _ (by omega) (by omega)
    simp -implicitDefEqProofs only [f0, f5, f4, hlt', h0, hb, hw1, hmul, hadd, hwb, vc_region, vc_quiet, vcD_nil, vcD_val2, vcDO_val, vcDO_asks, vcD_eff, vcD_guard2, vcDG_TT, vcDG_FF, vcDG_TF, vcDG_FT, vcDG_und, vcDG_Tdec, vcDG_Fdec, vcDEff, saysAll, pendAll, pendNext, addPend, Says, vc_bad, vc_seq, vc_ret, vc_skip, vc_block, vc_exit, vcGrps_nil, vcGrps_cons, vcGrps_guard2, vcG2_bool, vcG2_und, vcGB_TT, vcGB_FF, vcGB_TF, vcGB_FT, vcGB_Tdec, vcGB_Fdec, vcOps_nil, vcOps_cons, vcOut, KCall_ret, KCall_pan, skipF_nil, skipF_cons, Qseq_normal, Qseq_ret, Qseq_exit, Qseq_pan, Qblk_normal, Qblk_exit, Qblk_ret, Qblk_pan, Qpan_eq, Qcut_normal, Qcut_exit, Qcut_ret, Qcut_pan, Qloop_normal, Qloop_exit, Qloop_ret, Qloop_pan,
    stepOp, ev, upd_apply, putF, cellsOf, deref, faddrV, mk, abin, abinI, abinS, ibits, aeqb, aun, fldV, idxOf, elems, isPtr, putRef, splice, fillA, rowsA, minV, peqV, elemsA, rowBytes, strOf, Store.get_push, Store.get_set, Store.n_push, Store.n_set,
    Option.map_some, Option.map_none, reduceIte, Nat.reduceEqDiff, Nat.reduceAdd, Nat.reduceLeDiff, Nat.reduceLT, Nat.zero_add, Nat.add_zero, Nat.add_assoc, Nat.add_left_cancel_iff, Nat.left_eq_add, Nat.add_eq_left, Nat.lt_irrefl, Nat.le_refl,
    List.drop_zero, List.drop_succ_cons, List.take_succ_cons, List.take_zero, List.headD_cons, List.length_cons, List.length_nil, List.getElem?_cons_zero, List.getElem?_cons_succ, List.set_cons_zero, List.set_cons_succ, List.map_cons, List.map_nil,
    Bool.not_true, Bool.not_false, Bool.false_eq_true, Bool.true_eq_false, Bool.not_eq_true', Bool.not_eq_false', eq_self, false_imp_iff, true_imp_iff, and_true, true_and, and_false, false_and, or_true, true_or, initFr, fr0_at, Qend, resL, resV1, pack,
    decide_eq_true_eq, decide_eq_false_iff_not, Int.toNat_natCast, Option.some.injEq, exists_eq_left', vc_cond2, vcC2_bool, vcCB_T, vcCB_F, vcCB_dec, decide_true, decide_false]
    exact fun _ => ⟨n - 1, by omega, i + 1, by omega, by simp, by rw [take_get hb, svF_app]⟩
  · have hlt' : ¬ (i : Int) < l.length := by omega
    have hi : i = l.length := by omega
    rw [hi, List.take_length] at f4
    simp -implicitDefEqProofs only [f0, f5, f4, hlt', vc_region, vc_quiet, vcD_nil, vcD_val2, vcDO_val, vcDO_asks, vcD_eff, vcD_guard2, vcDG_TT, vcDG_FF, vcDG_TF, vcDG_FT, vcDG_und, vcDG_Tdec, vcDG_Fdec, vcDEff, saysAll, pendAll, pendNext, addPend, Says, vc_bad, vc_seq, vc_ret, vc_skip, vc_block, vc_exit, vcGrps_nil, vcGrps_cons, vcGrps_guard2, vcG2_bool, vcG2_und, vcGB_TT, vcGB_FF, vcGB_TF, vcGB_FT, vcGB_Tdec, vcGB_Fdec, vcOps_nil, vcOps_cons, vcOut, KCall_ret, KCall_pan, skipF_nil, skipF_cons, Qseq_normal, Qseq_ret, Qseq_exit, Qseq_pan, Qblk_normal, Qblk_exit, Qblk_ret, Qblk_pan, Qpan_eq, Qcut_normal, Qcut_exit, Qcut_ret, Qcut_pan, Qloop_normal, Qloop_exit, Qloop_ret, Qloop_pan,
    stepOp, ev, upd_apply, putF, cellsOf, deref, faddrV, mk, abin, abinI, abinS, ibits, aeqb, aun, fldV, idxOf, elems, isPtr, putRef, splice, fillA, rowsA, minV, peqV, elemsA, rowBytes, strOf, Store.get_push, Store.get_set, Store.n_push, Store.n_set,
    Option.map_some, Option.map_none, reduceIte, Nat.reduceEqDiff, Nat.reduceAdd, Nat.reduceLeDiff, Nat.reduceLT, Nat.zero_add, Nat.add_zero, Nat.add_assoc, Nat.add_left_cancel_iff, Nat.left_eq_add, Nat.add_eq_left, Nat.lt_irrefl, Nat.le_refl,
    List.drop_zero, List.drop_succ_cons, List.take_succ_cons, List.take_zero, List.headD_cons, List.length_cons, List.length_nil, List.getElem?_cons_zero, List.getElem?_cons_succ, List.set_cons_zero, List.set_cons_succ, List.map_cons, List.map_nil,
    Bool.not_true, Bool.not_false, Bool.false_eq_true, Bool.true_eq_false, Bool.not_eq_true', Bool.not_eq_false', eq_self, false_imp_iff, true_imp_iff, and_true, true_and, and_false, false_and, or_true, true_or, initFr, fr0_at, Qend, resL, resV1, pack,
    decide_eq_true_eq, decide_eq_false_iff_not, Int.toNat_natCast, Option.some.injEq, exists_eq_left', vc_cond2, vcC2_bool, vcCB_T, vcCB_F, vcCB_dec, decide_true, decide_false]
    exact fun _ => ⟨rfl, hx⟩
end Go.Proofs.Ytmlllckecalaaaa.Eng

namespace Go.Proofs.Ytmlllckecalaaaa.Eng
open Go Go.Proofs.Try

/-! ## The reference's way to lay a number with a sign -/
theorem svF_beN (k : Nat) (V : Nat) (a : Int) : svF a (beN k V) = a * 256 ^ k + ((V % 256 ^ k : Nat) : Int) := by
  induction k generalizing a with
  | zero => simp [beN, svF, Nat.mod_one]
  | succ k ih =>
    have h1 : (UInt8.ofNat (V / 2 ^ (8 * k))).toNat = V / 256 ^ k % 256 := by
      rw [show (2 : Nat) ^ (8 * k) = 256 ^ k by rw [Nat.pow_mul]]
      simp
    have := ih (a * 256 + ((UInt8.ofNat (V / 2 ^ (8 * k))).toNat : Int))
    rw [beN, svF, List.foldl_cons]
    unfold svF at this
    rw [this, h1, Nat.pow_succ, Nat.mod_mul, Int.pow_succ]
    generalize V / 256 ^ k % 256 = q
    have hP : (256 : Int) ^ k = ((256 ^ k : Nat) : Int) := by rw [Int.natCast_pow]; rfl
    rw [hP]
    generalize 256 ^ k = p
    rw [Int.natCast_add, Int.natCast_mul, Int.add_mul, Int.mul_assoc, Int.mul_comm (q : Int) p, Int.mul_comm 256 (p : Int)]
    omega
theorem sv_fits (v : Int) (hv : i64ok v) (k : Nat) (h1 : 1 ≤ k) (h8 : k ≤ 8) : sv (beN k (v % 18446744073709551616).toNat) = v ↔ (k = 8 ∨ fits k v) := by
  have hb0 : sv0 (beN k (v % 18446744073709551616).toNat) = if (v % 18446744073709551616).toNat / 256 ^ (k - 1) % 256 ≥ 128 then -1 else 0 := by
    obtain ⟨j, rfl⟩ : ∃ j, k = j + 1 := ⟨k - 1, by omega⟩
    rw [beN, sv0_cons, Nat.add_sub_cancel]
    have : (UInt8.ofNat ((v % 18446744073709551616).toNat / 2 ^ (8 * j))).toNat = (v % 18446744073709551616).toNat / 256 ^ j % 256 := by
      rw [show (2 : Nat) ^ (8 * j) = 256 ^ j by rw [Nat.pow_mul]]
      simp
    rw [this]
  rw [sv, svF_beN, hb0]
  generalize hV : (v % 18446744073709551616).toNat = V
  unfold i64ok at hv
  unfold fits
  have : k = 1 ∨ k = 2 ∨ k = 3 ∨ k = 4 ∨ k = 5 ∨ k = 6 ∨ k = 7 ∨ k = 8 := by omega
  rcases this with rfl | rfl | rfl | rfl | rfl | rfl | rfl | rfl
  all_goals
    simp only [Nat.reduceSub, Nat.reducePow, Int.reducePow, Nat.reduceMul, Nat.div_one, Nat.reduceEqDiff, false_or, true_or, iff_true]
    split <;> omega

theorem and255 (w : Int) : IntKind.i64.wrap ((BitVec.ofInt IntKind.i64.bits w &&& BitVec.ofInt IntKind.i64.bits 255).toNat : Int) = w % 256 := by
  have hbits : IntKind.i64.bits = 64 := rfl
  rw [hbits, BitVec.toNat_and, BitVec.toNat_ofInt, BitVec.toNat_ofInt]
  have e2 : ((255 : Int) % ((2 ^ 64 : Nat) : Int)).toNat = 255 := rfl
  have := Nat.and_two_pow_sub_one_eq_mod ((w % ((2 ^ 64 : Nat) : Int)).toNat) 8
  rw [e2, show (255 : Nat) = 2 ^ 8 - 1 from rfl, this, IntKind.wrap_i64]
  omega
theorem byte_at (v : Int) (hv : i64ok v) (j : Nat) (hj : j ≤ 7) : IntKind.u8.wrap (v.fdiv (256 ^ j) % 256) = ((UInt8.ofNat ((v % 18446744073709551616).toNat / 2 ^ (8 * j))).toNat : Int) := by
  rw [IntKind.wrap_u8]
  unfold i64ok at hv
  simp only [UInt8.toNat_ofNat']
  have : j = 0 ∨ j = 1 ∨ j = 2 ∨ j = 3 ∨ j = 4 ∨ j = 5 ∨ j = 6 ∨ j = 7 := by omega
  rcases this with rfl | rfl | rfl | rfl | rfl | rfl | rfl | rfl
  all_goals
    rw [Int.fdiv_eq_ediv_of_nonneg _ (by decide)]
    simp only [Nat.reducePow, Int.reducePow, Nat.reduceMul]
    omega
theorem fdiv_step (v : Int) (j : Nat) : (v.fdiv (256 ^ j)).fdiv 256 = v.fdiv (256 ^ (j + 1)) := by
  have hp : (0 : Int) ≤ 256 ^ j := Int.le_of_lt (Int.pow_pos (by decide))
  have hp1 : (0 : Int) ≤ 256 ^ (j + 1) := Int.le_of_lt (Int.pow_pos (by decide))
  rw [Int.fdiv_eq_ediv_of_nonneg _ hp, Int.fdiv_eq_ediv_of_nonneg _ (by decide), Int.fdiv_eq_ediv_of_nonneg _ hp1, Int.ediv_ediv_of_nonneg hp, Int.pow_succ]

theorem c55 (v : Int) (hv : i64ok v) : Pure prog 55 [.int .i64 v] (.str (sgn v)) := by
  refine Pure.of (fun _ _ => by simp only [nm]) fun S => acalls_of_vc low55 (by simp) ?_
  obtain ⟨hn1, hn8⟩ := nOf_le v
  simp -implicitDefEqProofs only [B55, vc_region, vc_quiet, vcD_nil, vcD_val2, vcDO_val, vcDO_asks, vcD_eff, vcD_guard2, vcDG_TT, vcDG_FF, vcDG_TF, vcDG_FT, vcDG_und, vcDG_Tdec, vcDG_Fdec, vcDEff, saysAll, pendAll, pendNext, addPend, Says, vc_bad, vc_seq, vc_ret, vc_skip, vc_block, vc_exit, vcGrps_nil, vcGrps_cons, vcGrps_guard2, vcG2_bool, vcG2_und, vcGB_TT, vcGB_FF, vcGB_TF, vcGB_FT, vcGB_Tdec, vcGB_Fdec, vcOps_nil, vcOps_cons, vcOut, KCall_ret, KCall_pan, skipF_nil, skipF_cons, Qseq_normal, Qseq_ret, Qseq_exit, Qseq_pan, Qblk_normal, Qblk_exit, Qblk_ret, Qblk_pan, Qpan_eq, Qcut_normal, Qcut_exit, Qcut_ret, Qcut_pan, Qloop_normal, Qloop_exit, Qloop_ret, Qloop_pan,
    stepOp, ev, upd_apply, putF, cellsOf, deref, faddrV, mk, abin, abinI, abinS, ibits, aeqb, aun, fldV, idxOf, elems, isPtr, putRef, splice, fillA, rowsA, minV, peqV, elemsA, rowBytes, strOf, Store.get_push, Store.get_set, Store.n_push, Store.n_set,
    Option.map_some, Option.map_none, reduceIte, Nat.reduceEqDiff, Nat.reduceAdd, Nat.reduceLeDiff, Nat.reduceLT, Nat.zero_add, Nat.add_zero, Nat.add_assoc, Nat.add_left_cancel_iff, Nat.left_eq_add, Nat.add_eq_left, Nat.lt_irrefl, Nat.le_refl,
    List.drop_zero, List.drop_succ_cons, List.take_succ_cons, List.take_zero, List.headD_cons, List.length_cons, List.length_nil, List.getElem?_cons_zero, List.getElem?_cons_succ, List.set_cons_zero, List.set_cons_succ, List.map_cons, List.map_nil,
    Bool.not_true, Bool.not_false, Bool.false_eq_true, Bool.true_eq_false, Bool.not_eq_true', Bool.not_eq_false', eq_self, false_imp_iff, true_imp_iff, and_true, true_and, and_false, false_and, or_true, true_or, initFr, fr0_at, Qend, resL, resV1, pack,
    decide_eq_true_eq, decide_eq_false_iff_not, Int.toNat_natCast, Option.some.injEq, exists_eq_left', vc_cond2, vcC2_bool, vcCB_T, vcCB_F, vcCB_dec, decide_true, decide_false]
  refine vc_loop (fun n fr T => ∃ k : Nat, k + n = nOf v ∧ 1 ≤ k ∧ fr 0 = .int .i64 v ∧ fr 3 = .int .i64 k ∧ Ext S T) (nOf v - 1) ⟨1, by omega, by omega, by simp [upd_apply], by simp [upd_apply], Ext.refl S⟩ ?_
  rintro n fr T ⟨k, hkn, hk1, f0, f3, hE⟩
  have hk0 : (0 : Int) ≤ k := by omega
  have hwk : IntKind.i64.wrap ((k : Int) - 1) = k - 1 := w64 _ (by omega) (by omega)
  have hwk1 : IntKind.i64.wrap ((k : Int) + 1) = k + 1 := w64 _ (by omega) (by omega)
  simp -implicitDefEqProofs only [f0, f3, hwk, List.length_replicate, List.take_replicate, vc_region, vc_quiet, vcD_nil, vcD_val2, vcDO_val, vcDO_asks, vcD_eff, vcD_guard2, vcDG_TT, vcDG_FF, vcDG_TF, vcDG_FT, vcDG_und, vcDG_Tdec, vcDG_Fdec, vcDEff, saysAll, pendAll, pendNext, addPend, Says, vc_bad, vc_seq, vc_ret, vc_skip, vc_block, vc_exit, vcGrps_nil, vcGrps_cons, vcGrps_guard2, vcG2_bool, vcG2_und, vcGB_TT, vcGB_FF, vcGB_TF, vcGB_FT, vcGB_Tdec, vcGB_Fdec, vcOps_nil, vcOps_cons, vcOut, KCall_ret, KCall_pan, skipF_nil, skipF_cons, Qseq_normal, Qseq_ret, Qseq_exit, Qseq_pan, Qblk_normal, Qblk_exit, Qblk_ret, Qblk_pan, Qpan_eq, Qcut_normal, Qcut_exit, Qcut_ret, Qcut_pan, Qloop_normal, Qloop_exit, Qloop_ret, Qloop_pan,
    stepOp, ev, upd_apply, putF, cellsOf, deref, faddrV, mk, abin, abinI, abinS, ibits, aeqb, aun, fldV, idxOf, elems, isPtr, putRef, splice, fillA, rowsA, minV, peqV, elemsA, rowBytes, strOf, Store.get_push, Store.get_set, Store.n_push, Store.n_set,
    Option.map_some, Option.map_none, reduceIte, Nat.reduceEqDiff, Nat.reduceAdd, Nat.reduceLeDiff, Nat.reduceLT, Nat.zero_add, Nat.add_zero, Nat.add_assoc, Nat.add_left_cancel_iff, Nat.left_eq_add, Nat.add_eq_left, Nat.lt_irrefl, Nat.le_refl,
    List.drop_zero, List.drop_succ_cons, List.take_succ_cons, List.take_zero, List.headD_cons, List.length_cons, List.length_nil, List.getElem?_cons_zero, List.getElem?_cons_succ, List.set_cons_zero, List.set_cons_succ, List.map_cons, List.map_nil,
    Bool.not_true, Bool.not_false, Bool.false_eq_true, Bool.true_eq_false, Bool.not_eq_true', Bool.not_eq_false', eq_self, false_imp_iff, true_imp_iff, and_true, true_and, and_false, false_and, or_true, true_or, initFr, fr0_at, Qend, resL, resV1, pack,
    decide_eq_true_eq, decide_eq_false_iff_not, Int.toNat_natCast, Option.some.injEq, exists_eq_left', vc_cond2, vcC2_bool, vcCB_T, vcCB_F, vcCB_dec, decide_true, decide_false]
  refine ⟨by unfold lenMax; omega, ?_⟩
  unfold sgn
  have hbyte := byte_at v hv
  have hsf := sv_fits v hv k hk1 (by omega)
  generalize (v % 18446744073709551616).toNat = V at hbyte hsf ⊢
  refine vc_loop (fun m fr U => ∃ j : Nat, j + m = k ∧ fr 0 = .int .i64 v ∧ fr 3 = .int .i64 k ∧ fr 4 = .own T.n 0 k ∧ fr 6 = .int .i64 ((k : Int) - 1 - j) ∧ fr 5 = .int .i64 (v.fdiv (256 ^ j)) ∧
    U.get T.n = some (.row 5 1 0 (byteRow (List.replicate (k - j) 0 ++ beN j V))) ∧ Ext S U) k ⟨0, by omega, by simp [upd_apply, f0], by simp [upd_apply, f3], by simp [upd_apply], by simp [upd_apply], by simp [upd_apply, f0, Int.fdiv_one], ?_, hE.push _⟩ ?_
  · simp [Store.get_push, beN, byteRow]
  clear f0 f3 fr
  rintro m fr U ⟨j, hjm, f0, f3, f4, f6, f5, hrow, hU⟩
  by_cases hlt : j < k
  · have hp : (0 : Int) ≤ (k : Int) - 1 - j := by omega
    have hge : (k : Int) - 1 - j ≥ 0 := by omega
    have hj : ((k : Int) - 1 - j).toNat = k - 1 - j := by omega
    have hlen : (byteRow (List.replicate (k - j) 0 ++ beN j V)).length = k := by simp [byteRow, beN_length]; omega
    have hget : (byteRow (List.replicate (k - j) 0 ++ beN j V))[k - 1 - j]? = some [.int .u8 (0 : UInt8).toNat] := by
      simp only [byteRow, List.getElem?_map]
      rw [List.getElem?_append_left (by simp; omega), List.getElem?_replicate, if_pos (by omega)]; rfl
    have hset := rep_set _ (UInt8.ofNat (V / 2 ^ (8 * j))) k j (beN j V) hlt (beN_length j V) rfl
    have ha := and255 (v.fdiv (256 ^ j))
    have hb := hbyte j (by omega)
    have h08 : ¬ (8 : Int) < 0 := by decide
    have hsh : (v.fdiv (256 ^ j)).fdiv (2 ^ min (Int.toNat 8) IntKind.i64.bits) = v.fdiv (256 ^ (j + 1)) := by
      have e8 : (2 : Int) ^ min (Int.toNat 8) IntKind.i64.bits = 256 := rfl
      rw [e8, fdiv_step]
    have hdec : IntKind.i64.wrap ((k : Int) - 1 - j - 1) = (k : Int) - 1 - j - 1 := w64 _ (by omega) (by omega)
    simp -implicitDefEqProofs only [f0, f3, f4, f6, f5, ashift, hge, hp, hj, hrow, hlen, hget, ha, hb, h08, hsh, hdec, vc_region, vc_quiet, vcD_nil, vcD_val2, vcDO_val, vcDO_asks, vcD_eff, vcD_guard2, vcDG_TT, vcDG_FF, vcDG_TF, vcDG_FT, vcDG_und, vcDG_Tdec, vcDG_Fdec, vcDEff, saysAll, pendAll, pendNext, addPend, Says, vc_bad, vc_seq, vc_ret, vc_skip, vc_block, vc_exit, vcGrps_nil, vcGrps_cons, vcGrps_guard2, vcG2_bool, vcG2_und, vcGB_TT, vcGB_FF, vcGB_TF, vcGB_FT, vcGB_Tdec, vcGB_Fdec, vcOps_nil, vcOps_cons, vcOut, KCall_ret, KCall_pan, skipF_nil, skipF_cons, Qseq_normal, Qseq_ret, Qseq_exit, Qseq_pan, Qblk_normal, Qblk_exit, Qblk_ret, Qblk_pan, Qpan_eq, Qcut_normal, Qcut_exit, Qcut_ret, Qcut_pan, Qloop_normal, Qloop_exit, Qloop_ret, Qloop_pan,
    stepOp, ev, upd_apply, putF, cellsOf, deref, faddrV, mk, abin, abinI, abinS, ibits, aeqb, aun, fldV, idxOf, elems, isPtr, putRef, splice, fillA, rowsA, minV, peqV, elemsA, rowBytes, strOf, Store.get_push, Store.get_set, Store.n_push, Store.n_set,
    Option.map_some, Option.map_none, reduceIte, Nat.reduceEqDiff, Nat.reduceAdd, Nat.reduceLeDiff, Nat.reduceLT, Nat.zero_add, Nat.add_zero, Nat.add_assoc, Nat.add_left_cancel_iff, Nat.left_eq_add, Nat.add_eq_left, Nat.lt_irrefl, Nat.le_refl,
    List.drop_zero, List.drop_succ_cons, List.take_succ_cons, List.take_zero, List.headD_cons, List.length_cons, List.length_nil, List.getElem?_cons_zero, List.getElem?_cons_succ, List.set_cons_zero, List.set_cons_succ, List.map_cons, List.map_nil,
    Bool.not_true, Bool.not_false, Bool.false_eq_true, Bool.true_eq_false, Bool.not_eq_true', Bool.not_eq_false', eq_self, false_imp_iff, true_imp_iff, and_true, true_and, and_false, false_and, or_true, true_or, initFr, fr0_at, Qend, resL, resV1, pack,
    decide_eq_true_eq, decide_eq_false_iff_not, Int.toNat_natCast, Option.some.injEq, exists_eq_left', vc_cond2, vcC2_bool, vcCB_T, vcCB_F, vcCB_dec, decide_true, decide_false]
    refine ⟨by omega, m - 1, by omega, j + 1, by omega, by simp only [AV.int.injEq, true_and]; omega, rfl, ?_, hU.set _ _ hE.n⟩
    rw [hset]; rfl
  · have hge : ¬ (k : Int) - 1 - j ≥ 0 := by omega
    have hik : j = k := by omega
    subst hik
    have hb : bytesOf (byteRow (beN j V)) = some (beN j V) := bytesOf_byteRow _
    have hlen : (byteRow (beN j V)).length = j := by rw [byteRow_length, beN_length]
    have htk : (byteRow (beN j V)).take j = byteRow (beN j V) := by
      have := List.take_length (l := byteRow (beN j V)); rwa [hlen] at this
    simp only [Nat.sub_self, List.replicate_zero, List.nil_append] at hrow
    simp -implicitDefEqProofs only [f0, f3, f4, f6, f5, hge, hrow, hlen, htk, hb, vc_region, vc_quiet, vcD_nil, vcD_val2, vcDO_val, vcDO_asks, vcD_eff, vcD_guard2, vcDG_TT, vcDG_FF, vcDG_TF, vcDG_FT, vcDG_und, vcDG_Tdec, vcDG_Fdec, vcDEff, saysAll, pendAll, pendNext, addPend, Says, vc_bad, vc_seq, vc_ret, vc_skip, vc_block, vc_exit, vcGrps_nil, vcGrps_cons, vcGrps_guard2, vcG2_bool, vcG2_und, vcGB_TT, vcGB_FF, vcGB_TF, vcGB_FT, vcGB_Tdec, vcGB_Fdec, vcOps_nil, vcOps_cons, vcOut, KCall_ret, KCall_pan, skipF_nil, skipF_cons, Qseq_normal, Qseq_ret, Qseq_exit, Qseq_pan, Qblk_normal, Qblk_exit, Qblk_ret, Qblk_pan, Qpan_eq, Qcut_normal, Qcut_exit, Qcut_ret, Qcut_pan, Qloop_normal, Qloop_exit, Qloop_ret, Qloop_pan,
    stepOp, ev, upd_apply, putF, cellsOf, deref, faddrV, mk, abin, abinI, abinS, ibits, aeqb, aun, fldV, idxOf, elems, isPtr, putRef, splice, fillA, rowsA, minV, peqV, elemsA, rowBytes, strOf, Store.get_push, Store.get_set, Store.n_push, Store.n_set,
    Option.map_some, Option.map_none, reduceIte, Nat.reduceEqDiff, Nat.reduceAdd, Nat.reduceLeDiff, Nat.reduceLT, Nat.zero_add, Nat.add_zero, Nat.add_assoc, Nat.add_left_cancel_iff, Nat.left_eq_add, Nat.add_eq_left, Nat.lt_irrefl, Nat.le_refl,
    List.drop_zero, List.drop_succ_cons, List.take_succ_cons, List.take_zero, List.headD_cons, List.length_cons, List.length_nil, List.getElem?_cons_zero, List.getElem?_cons_succ, List.set_cons_zero, List.set_cons_succ, List.map_cons, List.map_nil,
    Bool.not_true, Bool.not_false, Bool.false_eq_true, Bool.true_eq_false, Bool.not_eq_true', Bool.not_eq_false', eq_self, false_imp_iff, true_imp_iff, and_true, true_and, and_false, false_and, or_true, true_or, initFr, fr0_at, Qend, resL, resV1, pack,
    decide_eq_true_eq, decide_eq_false_iff_not, Int.toNat_natCast, Option.some.injEq, exists_eq_left', vc_cond2, vcC2_bool, vcCB_T, vcCB_F, vcCB_dec, decide_true, decide_false]
    refine (c59 (beN j V) (by rw [beN_length]; omega) (by rw [beN_length]; omega)).use ?_
    by_cases hstop : j = 8 ∨ fits j v
    · have he := hsf.2 hstop
      have hjn : j = nOf v := nOf_step v j hk1 (by omega) (by rintro ⟨h1, h2⟩; rcases hstop with h | h; omega; exact h2 h)
      simp -implicitDefEqProofs only [f0, f3, f4, he, hrow, hlen, htk, hb, vc_region, vc_quiet, vcD_nil, vcD_val2, vcDO_val, vcDO_asks, vcD_eff, vcD_guard2, vcDG_TT, vcDG_FF, vcDG_TF, vcDG_FT, vcDG_und, vcDG_Tdec, vcDG_Fdec, vcDEff, saysAll, pendAll, pendNext, addPend, Says, vc_bad, vc_seq, vc_ret, vc_skip, vc_block, vc_exit, vcGrps_nil, vcGrps_cons, vcGrps_guard2, vcG2_bool, vcG2_und, vcGB_TT, vcGB_FF, vcGB_TF, vcGB_FT, vcGB_Tdec, vcGB_Fdec, vcOps_nil, vcOps_cons, vcOut, KCall_ret, KCall_pan, skipF_nil, skipF_cons, Qseq_normal, Qseq_ret, Qseq_exit, Qseq_pan, Qblk_normal, Qblk_exit, Qblk_ret, Qblk_pan, Qpan_eq, Qcut_normal, Qcut_exit, Qcut_ret, Qcut_pan, Qloop_normal, Qloop_exit, Qloop_ret, Qloop_pan,
    stepOp, ev, upd_apply, putF, cellsOf, deref, faddrV, mk, abin, abinI, abinS, ibits, aeqb, aun, fldV, idxOf, elems, isPtr, putRef, splice, fillA, rowsA, minV, peqV, elemsA, rowBytes, strOf, Store.get_push, Store.get_set, Store.n_push, Store.n_set,
    Option.map_some, Option.map_none, reduceIte, Nat.reduceEqDiff, Nat.reduceAdd, Nat.reduceLeDiff, Nat.reduceLT, Nat.zero_add, Nat.add_zero, Nat.add_assoc, Nat.add_left_cancel_iff, Nat.left_eq_add, Nat.add_eq_left, Nat.lt_irrefl, Nat.le_refl,
    List.drop_zero, List.drop_succ_cons, List.take_succ_cons, List.take_zero, List.headD_cons, List.length_cons, List.length_nil, List.getElem?_cons_zero, List.getElem?_cons_succ, List.set_cons_zero, List.set_cons_succ, List.map_cons, List.map_nil,
    Bool.not_true, Bool.not_false, Bool.false_eq_true, Bool.true_eq_false, Bool.not_eq_true', Bool.not_eq_false', eq_self, false_imp_iff, true_imp_iff, and_true, true_and, and_false, false_and, or_true, true_or, initFr, fr0_at, Qend, resL, resV1, pack,
    decide_eq_true_eq, decide_eq_false_iff_not, Int.toNat_natCast, Option.some.injEq, exists_eq_left', vc_cond2, vcC2_bool, vcCB_T, vcCB_F, vcCB_dec, decide_true, decide_false]
      exact ⟨by rw [← hjn], hU⟩
    · have he : ¬ sv (beN j V) = v := fun h => hstop (hsf.1 h)
      have hm := nOf_more v j hk1 (by omega) ⟨by omega, fun h => hstop (.inr h)⟩
      simp -implicitDefEqProofs only [f0, f3, f4, he, hwk1, vc_region, vc_quiet, vcD_nil, vcD_val2, vcDO_val, vcDO_asks, vcD_eff, vcD_guard2, vcDG_TT, vcDG_FF, vcDG_TF, vcDG_FT, vcDG_und, vcDG_Tdec, vcDG_Fdec, vcDEff, saysAll, pendAll, pendNext, addPend, Says, vc_bad, vc_seq, vc_ret, vc_skip, vc_block, vc_exit, vcGrps_nil, vcGrps_cons, vcGrps_guard2, vcG2_bool, vcG2_und, vcGB_TT, vcGB_FF, vcGB_TF, vcGB_FT, vcGB_Tdec, vcGB_Fdec, vcOps_nil, vcOps_cons, vcOut, KCall_ret, KCall_pan, skipF_nil, skipF_cons, Qseq_normal, Qseq_ret, Qseq_exit, Qseq_pan, Qblk_normal, Qblk_exit, Qblk_ret, Qblk_pan, Qpan_eq, Qcut_normal, Qcut_exit, Qcut_ret, Qcut_pan, Qloop_normal, Qloop_exit, Qloop_ret, Qloop_pan,
    stepOp, ev, upd_apply, putF, cellsOf, deref, faddrV, mk, abin, abinI, abinS, ibits, aeqb, aun, fldV, idxOf, elems, isPtr, putRef, splice, fillA, rowsA, minV, peqV, elemsA, rowBytes, strOf, Store.get_push, Store.get_set, Store.n_push, Store.n_set,
    Option.map_some, Option.map_none, reduceIte, Nat.reduceEqDiff, Nat.reduceAdd, Nat.reduceLeDiff, Nat.reduceLT, Nat.zero_add, Nat.add_zero, Nat.add_assoc, Nat.add_left_cancel_iff, Nat.left_eq_add, Nat.add_eq_left, Nat.lt_irrefl, Nat.le_refl,
    List.drop_zero, List.drop_succ_cons, List.take_succ_cons, List.take_zero, List.headD_cons, List.length_cons, List.length_nil, List.getElem?_cons_zero, List.getElem?_cons_succ, List.set_cons_zero, List.set_cons_succ, List.map_cons, List.map_nil,
    Bool.not_true, Bool.not_false, Bool.false_eq_true, Bool.true_eq_false, Bool.not_eq_true', Bool.not_eq_false', eq_self, false_imp_iff, true_imp_iff, and_true, true_and, and_false, false_and, or_true, true_or, initFr, fr0_at, Qend, resL, resV1, pack,
    decide_eq_true_eq, decide_eq_false_iff_not, Int.toNat_natCast, Option.some.injEq, exists_eq_left', vc_cond2, vcC2_bool, vcCB_T, vcCB_F, vcCB_dec, decide_true, decide_false]
      exact ⟨n - 1, by omega, j + 1, by omega, by omega, by simp, hU⟩
end Go.Proofs.Ytmlllckecalaaaa.Eng

namespace Go.Proofs.Ytmlllckecalaaaa.Eng
open Go Go.Proofs.Try

/-! ## Alike: what is behind the lists' lengths does not matter -/
mutual
theorem same_of : ∀ (a b : Elem), copyE a = copyE b → sameS a b = true
  | .mk c t k b ks ext, .mk c' t' k' b' ks' ext', h => by
    simp only [copyE, Elem.mk.injEq, and_true] at h
    obtain ⟨rfl, rfl, rfl, rfl, h⟩ := h
    simp only [sameS, Elem.cls, Elem.tag, Elem.cons, Elem.bytes, Elem.kids, decide_true, Bool.true_and]
    exact sames_of ks ks' h
theorem sames_of : ∀ (a b : List Elem), copyEs a = copyEs b → sameSs a b = true
  | [], [], _ => rfl
  | [], y :: b, h => by simp [copyEs] at h
  | x :: a, [], h => by simp [copyEs] at h
  | x :: a, y :: b, h => by
    simp only [copyEs, List.cons.injEq] at h
    simp only [sameSs, same_of x y h.1, sames_of a b h.2, Bool.and_true]
end
mutual
theorem of_same : ∀ (a b : Elem), sameS a b = true → copyE a = copyE b
  | .mk c t k b ks ext, .mk c' t' k' b' ks' ext', h => by
    rw [sameS_eta] at h
    simp only [Bool.and_eq_true, decide_eq_true_eq] at h
    obtain ⟨h1, h2, h3, h4, h⟩ := h
    simp only [Elem.cls, Elem.tag, Elem.cons, Elem.bytes, Elem.kids] at h1 h2 h3 h4 h
    subst h1; subst h2; subst h3; subst h4
    simp only [copyE, Elem.mk.injEq, and_true, true_and]
    exact ofs_same ks ks' h
theorem ofs_same : ∀ (a b : List Elem), sameSs a b = true → copyEs a = copyEs b
  | [], [], _ => rfl
  | [], y :: b, h => by simp [sameSs] at h
  | x :: a, [], h => by simp [sameSs] at h
  | x :: a, y :: b, h => by
    simp only [sameSs, Bool.and_eq_true] at h
    simp only [copyEs, of_same x y h.1, ofs_same a b h.2]
end
mutual
theorem copy_copy : ∀ (e : Elem), copyE (copyE e) = copyE e
  | .mk c t k b ks ext => by simp only [copyE, copys_copys ks]
theorem copys_copys : ∀ (ks : List Elem), copyEs (copyEs ks) = copyEs ks
  | [] => rfl
  | k :: ks => by simp only [copyEs, copy_copy k, copys_copys ks]
end
mutual
theorem ok_copy : ∀ (e : Elem), okE e → okE (copyE e)
  | .mk c t k b ks ext, h => by simp only [copyE, okE, copyEs_length] at h ⊢; exact ⟨h.1, h.2.1, h.2.2.1, h.2.2.2.1, oks_copy ks h.2.2.2.2⟩
theorem oks_copy : ∀ (ks : List Elem), okEs ks → okEs (copyEs ks)
  | [], _ => by simp only [copyEs, okEs]
  | k :: ks, h => by simp only [copyEs, okEs] at h ⊢; exact ⟨ok_copy k h.1, oks_copy ks h.2⟩
end

/-! ## More elements that are made -/
theorem c22 (tag : Int) (b : Bool) : Pure prog 22 [.int .i64 tag, .bool b] (.agg (encE (strE tag [if b then 255 else 0]))) := by
  refine Pure.of (fun n _ => by simp only [nm, strE, encE, nmL, and_true, true_and, List.append_nil, encEs, nmLL]) fun S => acalls_of_vc low22 (by simp) ?_
  have hx := (Ext.refl S).push
  cases b
  all_goals
    simp -implicitDefEqProofs only [B22, vc_region, vc_quiet, vcD_nil, vcD_val2, vcDO_val, vcDO_asks, vcD_eff, vcD_guard2, vcDG_TT, vcDG_FF, vcDG_TF, vcDG_FT, vcDG_und, vcDG_Tdec, vcDG_Fdec, vcDEff, saysAll, pendAll, pendNext, addPend, Says, vc_bad, vc_seq, vc_ret, vc_skip, vc_block, vc_exit, vcGrps_nil, vcGrps_cons, vcGrps_guard2, vcG2_bool, vcG2_und, vcGB_TT, vcGB_FF, vcGB_TF, vcGB_FT, vcGB_Tdec, vcGB_Fdec, vcOps_nil, vcOps_cons, vcOut, KCall_ret, KCall_pan, skipF_nil, skipF_cons, Qseq_normal, Qseq_ret, Qseq_exit, Qseq_pan, Qblk_normal, Qblk_exit, Qblk_ret, Qblk_pan, Qpan_eq, Qcut_normal, Qcut_exit, Qcut_ret, Qcut_pan, Qloop_normal, Qloop_exit, Qloop_ret, Qloop_pan,
    stepOp, ev, upd_apply, putF, cellsOf, deref, faddrV, mk, abin, abinI, abinS, ibits, aeqb, aun, fldV, idxOf, elems, isPtr, putRef, splice, fillA, rowsA, minV, peqV, elemsA, rowBytes, strOf, Store.get_push, Store.get_set, Store.n_push, Store.n_set,
    Option.map_some, Option.map_none, reduceIte, Nat.reduceEqDiff, Nat.reduceAdd, Nat.reduceLeDiff, Nat.reduceLT, Nat.zero_add, Nat.add_zero, Nat.add_assoc, Nat.add_left_cancel_iff, Nat.left_eq_add, Nat.add_eq_left, Nat.lt_irrefl, Nat.le_refl,
    List.drop_zero, List.drop_succ_cons, List.take_succ_cons, List.take_zero, List.headD_cons, List.length_cons, List.length_nil, List.getElem?_cons_zero, List.getElem?_cons_succ, List.set_cons_zero, List.set_cons_succ, List.map_cons, List.map_nil,
    Bool.not_true, Bool.not_false, Bool.false_eq_true, Bool.true_eq_false, Bool.not_eq_true', Bool.not_eq_false', eq_self, false_imp_iff, true_imp_iff, and_true, true_and, and_false, false_and, or_true, true_or, initFr, fr0_at, Qend, resL, resV1, pack,
    decide_eq_true_eq, decide_eq_false_iff_not, Int.toNat_natCast, Option.some.injEq, exists_eq_left', vc_cond2, vcC2_bool, vcCB_T, vcCB_F, vcCB_dec, decide_true, decide_false]
    refine (c21 tag _).use ?_
    rw [encE_strE]
    simp -implicitDefEqProofs only [vc_region, vc_quiet, vcD_nil, vcD_val2, vcDO_val, vcDO_asks, vcD_eff, vcD_guard2, vcDG_TT, vcDG_FF, vcDG_TF, vcDG_FT, vcDG_und, vcDG_Tdec, vcDG_Fdec, vcDEff, saysAll, pendAll, pendNext, addPend, Says, vc_bad, vc_seq, vc_ret, vc_skip, vc_block, vc_exit, vcGrps_nil, vcGrps_cons, vcGrps_guard2, vcG2_bool, vcG2_und, vcGB_TT, vcGB_FF, vcGB_TF, vcGB_FT, vcGB_Tdec, vcGB_Fdec, vcOps_nil, vcOps_cons, vcOut, KCall_ret, KCall_pan, skipF_nil, skipF_cons, Qseq_normal, Qseq_ret, Qseq_exit, Qseq_pan, Qblk_normal, Qblk_exit, Qblk_ret, Qblk_pan, Qpan_eq, Qcut_normal, Qcut_exit, Qcut_ret, Qcut_pan, Qloop_normal, Qloop_exit, Qloop_ret, Qloop_pan,
    stepOp, ev, upd_apply, putF, cellsOf, deref, faddrV, mk, abin, abinI, abinS, ibits, aeqb, aun, fldV, idxOf, elems, isPtr, putRef, splice, fillA, rowsA, minV, peqV, elemsA, rowBytes, strOf, Store.get_push, Store.get_set, Store.n_push, Store.n_set,
    Option.map_some, Option.map_none, reduceIte, Nat.reduceEqDiff, Nat.reduceAdd, Nat.reduceLeDiff, Nat.reduceLT, Nat.zero_add, Nat.add_zero, Nat.add_assoc, Nat.add_left_cancel_iff, Nat.left_eq_add, Nat.add_eq_left, Nat.lt_irrefl, Nat.le_refl,
    List.drop_zero, List.drop_succ_cons, List.take_succ_cons, List.take_zero, List.headD_cons, List.length_cons, List.length_nil, List.getElem?_cons_zero, List.getElem?_cons_succ, List.set_cons_zero, List.set_cons_succ, List.map_cons, List.map_nil,
    Bool.not_true, Bool.not_false, Bool.false_eq_true, Bool.true_eq_false, Bool.not_eq_true', Bool.not_eq_false', eq_self, false_imp_iff, true_imp_iff, and_true, true_and, and_false, false_and, or_true, true_or, initFr, fr0_at, Qend, resL, resV1, pack,
    decide_eq_true_eq, decide_eq_false_iff_not, Int.toNat_natCast, Option.some.injEq, exists_eq_left', vc_cond2, vcC2_bool, vcCB_T, vcCB_F, vcCB_dec, decide_true, decide_false]
    exact (hx _).set _ _ (Nat.le_refl _)
theorem c24 (tag v : Int) (hv : i64ok v) : Pure prog 24 [.int .i64 tag, .int .i64 v] (.agg (encE (strE tag (sgn v)))) := by
  refine Pure.weak (Pure.of (v := .agg [.int .i64 0, .int .i64 tag, .bool false, .str (sgn v), .lit (.slice none 0 0)]) (fun _ _ => by simp only [nm, nmL, and_self]) fun S => acalls_of_vc low24 (by simp) ?_) (wk_strE tag _)
  have hx := (Ext.refl S).push
  simp -implicitDefEqProofs only [B24, vc_region, vc_quiet, vcD_nil, vcD_val2, vcDO_val, vcDO_asks, vcD_eff, vcD_guard2, vcDG_TT, vcDG_FF, vcDG_TF, vcDG_FT, vcDG_und, vcDG_Tdec, vcDG_Fdec, vcDEff, saysAll, pendAll, pendNext, addPend, Says, vc_bad, vc_seq, vc_ret, vc_skip, vc_block, vc_exit, vcGrps_nil, vcGrps_cons, vcGrps_guard2, vcG2_bool, vcG2_und, vcGB_TT, vcGB_FF, vcGB_TF, vcGB_FT, vcGB_Tdec, vcGB_Fdec, vcOps_nil, vcOps_cons, vcOut, KCall_ret, KCall_pan, skipF_nil, skipF_cons, Qseq_normal, Qseq_ret, Qseq_exit, Qseq_pan, Qblk_normal, Qblk_exit, Qblk_ret, Qblk_pan, Qpan_eq, Qcut_normal, Qcut_exit, Qcut_ret, Qcut_pan, Qloop_normal, Qloop_exit, Qloop_ret, Qloop_pan,
    stepOp, ev, upd_apply, putF, cellsOf, deref, faddrV, mk, abin, abinI, abinS, ibits, aeqb, aun, fldV, idxOf, elems, isPtr, putRef, splice, fillA, rowsA, minV, peqV, elemsA, rowBytes, strOf, Store.get_push, Store.get_set, Store.n_push, Store.n_set,
    Option.map_some, Option.map_none, reduceIte, Nat.reduceEqDiff, Nat.reduceAdd, Nat.reduceLeDiff, Nat.reduceLT, Nat.zero_add, Nat.add_zero, Nat.add_assoc, Nat.add_left_cancel_iff, Nat.left_eq_add, Nat.add_eq_left, Nat.lt_irrefl, Nat.le_refl,
    List.drop_zero, List.drop_succ_cons, List.take_succ_cons, List.take_zero, List.headD_cons, List.length_cons, List.length_nil, List.getElem?_cons_zero, List.getElem?_cons_succ, List.set_cons_zero, List.set_cons_succ, List.map_cons, List.map_nil,
    Bool.not_true, Bool.not_false, Bool.false_eq_true, Bool.true_eq_false, Bool.not_eq_true', Bool.not_eq_false', eq_self, false_imp_iff, true_imp_iff, and_true, true_and, and_false, false_and, or_true, true_or, initFr, fr0_at, Qend, resL, resV1, pack,
    decide_eq_true_eq, decide_eq_false_iff_not, Int.toNat_natCast, Option.some.injEq, exists_eq_left', vc_cond2, vcC2_bool, vcCB_T, vcCB_F, vcCB_dec, decide_true, decide_false]
  refine (c55 v hv).use ?_
  simp -implicitDefEqProofs only [vc_region, vc_quiet, vcD_nil, vcD_val2, vcDO_val, vcDO_asks, vcD_eff, vcD_guard2, vcDG_TT, vcDG_FF, vcDG_TF, vcDG_FT, vcDG_und, vcDG_Tdec, vcDG_Fdec, vcDEff, saysAll, pendAll, pendNext, addPend, Says, vc_bad, vc_seq, vc_ret, vc_skip, vc_block, vc_exit, vcGrps_nil, vcGrps_cons, vcGrps_guard2, vcG2_bool, vcG2_und, vcGB_TT, vcGB_FF, vcGB_TF, vcGB_FT, vcGB_Tdec, vcGB_Fdec, vcOps_nil, vcOps_cons, vcOut, KCall_ret, KCall_pan, skipF_nil, skipF_cons, Qseq_normal, Qseq_ret, Qseq_exit, Qseq_pan, Qblk_normal, Qblk_exit, Qblk_ret, Qblk_pan, Qpan_eq, Qcut_normal, Qcut_exit, Qcut_ret, Qcut_pan, Qloop_normal, Qloop_exit, Qloop_ret, Qloop_pan,
    stepOp, ev, upd_apply, putF, cellsOf, deref, faddrV, mk, abin, abinI, abinS, ibits, aeqb, aun, fldV, idxOf, elems, isPtr, putRef, splice, fillA, rowsA, minV, peqV, elemsA, rowBytes, strOf, Store.get_push, Store.get_set, Store.n_push, Store.n_set,
    Option.map_some, Option.map_none, reduceIte, Nat.reduceEqDiff, Nat.reduceAdd, Nat.reduceLeDiff, Nat.reduceLT, Nat.zero_add, Nat.add_zero, Nat.add_assoc, Nat.add_left_cancel_iff, Nat.left_eq_add, Nat.add_eq_left, Nat.lt_irrefl, Nat.le_refl,
    List.drop_zero, List.drop_succ_cons, List.take_succ_cons, List.take_zero, List.headD_cons, List.length_cons, List.length_nil, List.getElem?_cons_zero, List.getElem?_cons_succ, List.set_cons_zero, List.set_cons_succ, List.map_cons, List.map_nil,
    Bool.not_true, Bool.not_false, Bool.false_eq_true, Bool.true_eq_false, Bool.not_eq_true', Bool.not_eq_false', eq_self, false_imp_iff, true_imp_iff, and_true, true_and, and_false, false_and, or_true, true_or, initFr, fr0_at, Qend, resL, resV1, pack,
    decide_eq_true_eq, decide_eq_false_iff_not, Int.toNat_natCast, Option.some.injEq, exists_eq_left', vc_cond2, vcC2_bool, vcCB_T, vcCB_F, vcCB_dec, decide_true, decide_false]
  exact (hx _).set _ _ (Nat.le_refl _)
theorem c26 (tag : Int) (b : Bool) : Pure prog 26 [.int .i64 tag, .bool b] (.agg (encE (strE tag [if b then 255 else 0]))) := by
  refine Pure.weak (Pure.of (v := .agg [.int .i64 0, .int .i64 tag, .bool false, .str [if b then 255 else 0], .lit (.slice none 0 0)]) (fun _ _ => by simp only [nm, nmL, and_self]) fun S => acalls_of_vc low26 (by simp) ?_) (wk_strE tag _)
  have hx := (Ext.refl S).push
  cases b
  all_goals
    simp -implicitDefEqProofs only [B26, vc_region, vc_quiet, vcD_nil, vcD_val2, vcDO_val, vcDO_asks, vcD_eff, vcD_guard2, vcDG_TT, vcDG_FF, vcDG_TF, vcDG_FT, vcDG_und, vcDG_Tdec, vcDG_Fdec, vcDEff, saysAll, pendAll, pendNext, addPend, Says, vc_bad, vc_seq, vc_ret, vc_skip, vc_block, vc_exit, vcGrps_nil, vcGrps_cons, vcGrps_guard2, vcG2_bool, vcG2_und, vcGB_TT, vcGB_FF, vcGB_TF, vcGB_FT, vcGB_Tdec, vcGB_Fdec, vcOps_nil, vcOps_cons, vcOut, KCall_ret, KCall_pan, skipF_nil, skipF_cons, Qseq_normal, Qseq_ret, Qseq_exit, Qseq_pan, Qblk_normal, Qblk_exit, Qblk_ret, Qblk_pan, Qpan_eq, Qcut_normal, Qcut_exit, Qcut_ret, Qcut_pan, Qloop_normal, Qloop_exit, Qloop_ret, Qloop_pan,
    stepOp, ev, upd_apply, putF, cellsOf, deref, faddrV, mk, abin, abinI, abinS, ibits, aeqb, aun, fldV, idxOf, elems, isPtr, putRef, splice, fillA, rowsA, minV, peqV, elemsA, rowBytes, strOf, Store.get_push, Store.get_set, Store.n_push, Store.n_set,
    Option.map_some, Option.map_none, reduceIte, Nat.reduceEqDiff, Nat.reduceAdd, Nat.reduceLeDiff, Nat.reduceLT, Nat.zero_add, Nat.add_zero, Nat.add_assoc, Nat.add_left_cancel_iff, Nat.left_eq_add, Nat.add_eq_left, Nat.lt_irrefl, Nat.le_refl,
    List.drop_zero, List.drop_succ_cons, List.take_succ_cons, List.take_zero, List.headD_cons, List.length_cons, List.length_nil, List.getElem?_cons_zero, List.getElem?_cons_succ, List.set_cons_zero, List.set_cons_succ, List.map_cons, List.map_nil,
    Bool.not_true, Bool.not_false, Bool.false_eq_true, Bool.true_eq_false, Bool.not_eq_true', Bool.not_eq_false', eq_self, false_imp_iff, true_imp_iff, and_true, true_and, and_false, false_and, or_true, true_or, initFr, fr0_at, Qend, resL, resV1, pack,
    decide_eq_true_eq, decide_eq_false_iff_not, Int.toNat_natCast, Option.some.injEq, exists_eq_left', vc_cond2, vcC2_bool, vcCB_T, vcCB_F, vcCB_dec, decide_true, decide_false]
    exact (hx _).set _ _ (Nat.le_refl _)
theorem nm_encE (e : Elem) (n : Nat) (h : nmL n (encE e)) : nmLL n (encEs e.kids ++ e.ext) := by
  rw [encE_eta] at h; simp only [nmL, nm, and_true, true_and] at h; exact h
theorem c27 (ks : List Elem) (ext : List (List AV)) : Pure prog 27 [lstV ks ext] (.agg (encE (.mk 0 16 true [] ks ext))) := by
  refine Pure.of (fun n h => by simp only [nm, lstV, encE, nmL, and_true, true_and] at h ⊢; exact h) fun S => acalls_of_vc low27 (by simp) ?_
  have hx := (Ext.refl S).push
  unfold lstV
  simp -implicitDefEqProofs only [B27, vc_region, vc_quiet, vcD_nil, vcD_val2, vcDO_val, vcDO_asks, vcD_eff, vcD_guard2, vcDG_TT, vcDG_FF, vcDG_TF, vcDG_FT, vcDG_und, vcDG_Tdec, vcDG_Fdec, vcDEff, saysAll, pendAll, pendNext, addPend, Says, vc_bad, vc_seq, vc_ret, vc_skip, vc_block, vc_exit, vcGrps_nil, vcGrps_cons, vcGrps_guard2, vcG2_bool, vcG2_und, vcGB_TT, vcGB_FF, vcGB_TF, vcGB_FT, vcGB_Tdec, vcGB_Fdec, vcOps_nil, vcOps_cons, vcOut, KCall_ret, KCall_pan, skipF_nil, skipF_cons, Qseq_normal, Qseq_ret, Qseq_exit, Qseq_pan, Qblk_normal, Qblk_exit, Qblk_ret, Qblk_pan, Qpan_eq, Qcut_normal, Qcut_exit, Qcut_ret, Qcut_pan, Qloop_normal, Qloop_exit, Qloop_ret, Qloop_pan,
    stepOp, ev, upd_apply, putF, cellsOf, deref, faddrV, mk, abin, abinI, abinS, ibits, aeqb, aun, fldV, idxOf, elems, isPtr, putRef, splice, fillA, rowsA, minV, peqV, elemsA, rowBytes, strOf, Store.get_push, Store.get_set, Store.n_push, Store.n_set,
    Option.map_some, Option.map_none, reduceIte, Nat.reduceEqDiff, Nat.reduceAdd, Nat.reduceLeDiff, Nat.reduceLT, Nat.zero_add, Nat.add_zero, Nat.add_assoc, Nat.add_left_cancel_iff, Nat.left_eq_add, Nat.add_eq_left, Nat.lt_irrefl, Nat.le_refl,
    List.drop_zero, List.drop_succ_cons, List.take_succ_cons, List.take_zero, List.headD_cons, List.length_cons, List.length_nil, List.getElem?_cons_zero, List.getElem?_cons_succ, List.set_cons_zero, List.set_cons_succ, List.map_cons, List.map_nil,
    Bool.not_true, Bool.not_false, Bool.false_eq_true, Bool.true_eq_false, Bool.not_eq_true', Bool.not_eq_false', eq_self, false_imp_iff, true_imp_iff, and_true, true_and, and_false, false_and, or_true, true_or, initFr, fr0_at, Qend, resL, resV1, pack,
    decide_eq_true_eq, decide_eq_false_iff_not, Int.toNat_natCast, Option.some.injEq, exists_eq_left', vc_cond2, vcC2_bool, vcCB_T, vcCB_F, vcCB_dec, decide_true, decide_false]
  exact ⟨rfl, (hx _).set _ _ (Nat.le_refl _)⟩
theorem c28 (e : Elem) (c t : Int) (hok : okE e) : Pure prog 28 [.agg (encE e), .int .i64 c, .int .i64 t] (.agg (encE (.mk c t e.cons e.bytes (copyEs e.kids) []))) := by
  obtain ⟨_, _, _, hkl, hks⟩ := okE_eta hok
  refine Pure.of (fun n h => by simp only [nm, encE, nmL, and_true, true_and, List.append_nil]; exact nm_copys _ _) fun S => acalls_of_vc low28 (by simp) ?_
  have hx := (Ext.refl S).push
  rw [encE_eta e]
  simp -implicitDefEqProofs only [B28, vc_region, vc_quiet, vcD_nil, vcD_val2, vcDO_val, vcDO_asks, vcD_eff, vcD_guard2, vcDG_TT, vcDG_FF, vcDG_TF, vcDG_FT, vcDG_und, vcDG_Tdec, vcDG_Fdec, vcDEff, saysAll, pendAll, pendNext, addPend, Says, vc_bad, vc_seq, vc_ret, vc_skip, vc_block, vc_exit, vcGrps_nil, vcGrps_cons, vcGrps_guard2, vcG2_bool, vcG2_und, vcGB_TT, vcGB_FF, vcGB_TF, vcGB_FT, vcGB_Tdec, vcGB_Fdec, vcOps_nil, vcOps_cons, vcOut, KCall_ret, KCall_pan, skipF_nil, skipF_cons, Qseq_normal, Qseq_ret, Qseq_exit, Qseq_pan, Qblk_normal, Qblk_exit, Qblk_ret, Qblk_pan, Qpan_eq, Qcut_normal, Qcut_exit, Qcut_ret, Qcut_pan, Qloop_normal, Qloop_exit, Qloop_ret, Qloop_pan,
    stepOp, ev, upd_apply, putF, cellsOf, deref, faddrV, mk, abin, abinI, abinS, ibits, aeqb, aun, fldV, idxOf, elems, isPtr, putRef, splice, fillA, rowsA, minV, peqV, elemsA, rowBytes, strOf, Store.get_push, Store.get_set, Store.n_push, Store.n_set,
    Option.map_some, Option.map_none, reduceIte, Nat.reduceEqDiff, Nat.reduceAdd, Nat.reduceLeDiff, Nat.reduceLT, Nat.zero_add, Nat.add_zero, Nat.add_assoc, Nat.add_left_cancel_iff, Nat.left_eq_add, Nat.add_eq_left, Nat.lt_irrefl, Nat.le_refl,
    List.drop_zero, List.drop_succ_cons, List.take_succ_cons, List.take_zero, List.headD_cons, List.length_cons, List.length_nil, List.getElem?_cons_zero, List.getElem?_cons_succ, List.set_cons_zero, List.set_cons_succ, List.map_cons, List.map_nil,
    Bool.not_true, Bool.not_false, Bool.false_eq_true, Bool.true_eq_false, Bool.not_eq_true', Bool.not_eq_false', eq_self, false_imp_iff, true_imp_iff, and_true, true_and, and_false, false_and, or_true, true_or, initFr, fr0_at, Qend, resL, resV1, pack,
    decide_eq_true_eq, decide_eq_false_iff_not, Int.toNat_natCast, Option.some.injEq, exists_eq_left', vc_cond2, vcC2_bool, vcCB_T, vcCB_F, vcCB_dec, decide_true, decide_false]
  have h54 := c54 e.kids e.ext hkl hks
  unfold lstV at h54
  refine h54.use ?_
  simp -implicitDefEqProofs only [vc_region, vc_quiet, vcD_nil, vcD_val2, vcDO_val, vcDO_asks, vcD_eff, vcD_guard2, vcDG_TT, vcDG_FF, vcDG_TF, vcDG_FT, vcDG_und, vcDG_Tdec, vcDG_Fdec, vcDEff, saysAll, pendAll, pendNext, addPend, Says, vc_bad, vc_seq, vc_ret, vc_skip, vc_block, vc_exit, vcGrps_nil, vcGrps_cons, vcGrps_guard2, vcG2_bool, vcG2_und, vcGB_TT, vcGB_FF, vcGB_TF, vcGB_FT, vcGB_Tdec, vcGB_Fdec, vcOps_nil, vcOps_cons, vcOut, KCall_ret, KCall_pan, skipF_nil, skipF_cons, Qseq_normal, Qseq_ret, Qseq_exit, Qseq_pan, Qblk_normal, Qblk_exit, Qblk_ret, Qblk_pan, Qpan_eq, Qcut_normal, Qcut_exit, Qcut_ret, Qcut_pan, Qloop_normal, Qloop_exit, Qloop_ret, Qloop_pan,
    stepOp, ev, upd_apply, putF, cellsOf, deref, faddrV, mk, abin, abinI, abinS, ibits, aeqb, aun, fldV, idxOf, elems, isPtr, putRef, splice, fillA, rowsA, minV, peqV, elemsA, rowBytes, strOf, Store.get_push, Store.get_set, Store.n_push, Store.n_set,
    Option.map_some, Option.map_none, reduceIte, Nat.reduceEqDiff, Nat.reduceAdd, Nat.reduceLeDiff, Nat.reduceLT, Nat.zero_add, Nat.add_zero, Nat.add_assoc, Nat.add_left_cancel_iff, Nat.left_eq_add, Nat.add_eq_left, Nat.lt_irrefl, Nat.le_refl,
    List.drop_zero, List.drop_succ_cons, List.take_succ_cons, List.take_zero, List.headD_cons, List.length_cons, List.length_nil, List.getElem?_cons_zero, List.getElem?_cons_succ, List.set_cons_zero, List.set_cons_succ, List.map_cons, List.map_nil,
    Bool.not_true, Bool.not_false, Bool.false_eq_true, Bool.true_eq_false, Bool.not_eq_true', Bool.not_eq_false', eq_self, false_imp_iff, true_imp_iff, and_true, true_and, and_false, false_and, or_true, true_or, initFr, fr0_at, Qend, resL, resV1, pack,
    decide_eq_true_eq, decide_eq_false_iff_not, Int.toNat_natCast, Option.some.injEq, exists_eq_left', vc_cond2, vcC2_bool, vcCB_T, vcCB_F, vcCB_dec, decide_true, decide_false]
  exact ⟨rfl, ((((((hx _).push _).set _ _ (by omega)).set _ _ (by omega)).set _ _ (by omega)).set _ _ (by omega))⟩
theorem c29 (e : Elem) (c t : Int) : Pure prog 29 [.agg (encE e), .int .i64 c, .int .i64 t] (.agg (encE (.mk c t e.cons e.bytes e.kids e.ext))) := by
  refine Pure.of (fun n h => by
    simp only [nmL, nm, and_true] at h
    have := nm_encE e n h
    simp only [nm, encE, nmL, and_true, true_and]; exact this) fun S => acalls_of_vc low29 (by simp) ?_
  have hx := (Ext.refl S).push
  rw [encE_eta e]
  simp -implicitDefEqProofs only [B29, vc_region, vc_quiet, vcD_nil, vcD_val2, vcDO_val, vcDO_asks, vcD_eff, vcD_guard2, vcDG_TT, vcDG_FF, vcDG_TF, vcDG_FT, vcDG_und, vcDG_Tdec, vcDG_Fdec, vcDEff, saysAll, pendAll, pendNext, addPend, Says, vc_bad, vc_seq, vc_ret, vc_skip, vc_block, vc_exit, vcGrps_nil, vcGrps_cons, vcGrps_guard2, vcG2_bool, vcG2_und, vcGB_TT, vcGB_FF, vcGB_TF, vcGB_FT, vcGB_Tdec, vcGB_Fdec, vcOps_nil, vcOps_cons, vcOut, KCall_ret, KCall_pan, skipF_nil, skipF_cons, Qseq_normal, Qseq_ret, Qseq_exit, Qseq_pan, Qblk_normal, Qblk_exit, Qblk_ret, Qblk_pan, Qpan_eq, Qcut_normal, Qcut_exit, Qcut_ret, Qcut_pan, Qloop_normal, Qloop_exit, Qloop_ret, Qloop_pan,
    stepOp, ev, upd_apply, putF, cellsOf, deref, faddrV, mk, abin, abinI, abinS, ibits, aeqb, aun, fldV, idxOf, elems, isPtr, putRef, splice, fillA, rowsA, minV, peqV, elemsA, rowBytes, strOf, Store.get_push, Store.get_set, Store.n_push, Store.n_set,
    Option.map_some, Option.map_none, reduceIte, Nat.reduceEqDiff, Nat.reduceAdd, Nat.reduceLeDiff, Nat.reduceLT, Nat.zero_add, Nat.add_zero, Nat.add_assoc, Nat.add_left_cancel_iff, Nat.left_eq_add, Nat.add_eq_left, Nat.lt_irrefl, Nat.le_refl,
    List.drop_zero, List.drop_succ_cons, List.take_succ_cons, List.take_zero, List.headD_cons, List.length_cons, List.length_nil, List.getElem?_cons_zero, List.getElem?_cons_succ, List.set_cons_zero, List.set_cons_succ, List.map_cons, List.map_nil,
    Bool.not_true, Bool.not_false, Bool.false_eq_true, Bool.true_eq_false, Bool.not_eq_true', Bool.not_eq_false', eq_self, false_imp_iff, true_imp_iff, and_true, true_and, and_false, false_and, or_true, true_or, initFr, fr0_at, Qend, resL, resV1, pack,
    decide_eq_true_eq, decide_eq_false_iff_not, Int.toNat_natCast, Option.some.injEq, exists_eq_left', vc_cond2, vcC2_bool, vcCB_T, vcCB_F, vcCB_dec, decide_true, decide_false]
  exact ⟨rfl, (((((hx _).push _).set _ _ (by omega)).set _ _ (by omega)).set _ _ (by omega))⟩
end Go.Proofs.Ytmlllckecalaaaa.Eng

namespace Go.Proofs.Ytmlllckecalaaaa.Eng
open Go Go.WideShapes Go.ChangeShapes Go.RowKit

/-! ## What a reading says, as values of the engine's -/
def TypedL (T : TypeId → List AV → Prop) : List TypeId → List AV → Prop
  | [], avs => avs = []
  | t :: ts, avs => ∃ a b, avs = a ++ b ∧ T t a ∧ TypedL T ts b
def Typed (P : Program) : Nat → TypeId → List AV → Prop
  | 0, _, _ => False
  | fuel + 1, t, avs => match P.underlying t with
    | some .bool => ∃ b, avs = [.bool b]
    | some (.int k) => ∃ n, avs = [.int k n] ∧ (Lit.int k n).wf = true
    | some .string => ∃ l : List UInt8, avs = [.str l] ∧ l.length ≤ reachBytes
    | some (.slice e) => ∃ es : List (List AV), avs = [.sl (P.cellsOf e) es es.length] ∧ es.length * P.bytesOf e ≤ reachBytes ∧ (∀ x ∈ es, Typed P fuel e x)
    | some (.struct fs) => TypedL (Typed P fuel) (fs.toList.map (·.type)) avs
    | _ => False

/-- These types lead to no others, and to what is told here alone. -/
def closedB (P : Program) (T : List TypeId) : Bool := T.all fun t => match P.underlying t with
  | some .bool | some (.int _) | some .string => P.cellsOf t == 1
  | some (.slice e) => T.contains e && decide (0 < P.cellsOf e) && decide (0 < P.bytesOf e) && P.cellsOf t == 1
  | some (.struct fs) => (fs.toList.all fun f => T.contains f.type) && P.cellsOf t == (fs.toList.map fun f => P.cellsOf f.type).sum &&
      (List.range fs.toList.length).all fun j => match fs.toList[j]? with | some f => f.offset == ((fs.toList.take j).map fun f => P.cellsOf f.type).sum | none => true
  | _ => false

section
variable {H : Type} {enc : TypeId × Value → H} {P : Program} {W : World} {μ : Mu}

def M0 : Nat → Prop := fun _ => False

theorem repVals_app {M : Nat → Prop} : ∀ (a b : List AV) (xs ys : List Value), RepVals μ M W a xs → RepVals μ M W b ys → RepVals μ M W (a ++ b) (xs ++ ys)
  | [], b, xs, ys, h, k => by simp only [RepVals] at h; subst h; simpa using k
  | c :: a, b, xs, ys, h, k => by
    simp only [RepVals] at h
    obtain ⟨x, xs', rfl, h1, h2⟩ := h
    simp only [List.cons_append, RepVals]
    exact ⟨x, xs' ++ ys, rfl, h1, repVals_app a b xs' ys h2 k⟩

theorem fields_rep {fs : List Field} {n : Nat} (ihf : ∀ t cs x, (∃ f ∈ fs, f.type = t) → DataW.trod enc P W 0 (fun _ => true) true n t cs = some x → (DataW.weights P t x.1).all (· ≤ reachBytes) = true →
      ∃ avs, Typed P n t avs ∧ RepVals μ M0 W avs cs ∧ (∀ c ∈ cs, one c = true)) :
    ∀ (gs : List Field) (pre : List Field) (cs : List Value) (xs : List (DataW H × List MemPlace)), fs = pre ++ gs → cs.length = (fs.map fun f => P.cellsOf f.type).sum →
      (∀ (j : Nat) (f : Field), gs[j]? = some f → f.offset = ((pre ++ gs.take j).map fun f => P.cellsOf f.type).sum) →
      (∀ (j : Nat) (f : Field), gs[j]? = some f → DataW.trod enc P W 0 (fun _ => true) true n f.type ((cs.drop f.offset).take (P.cellsOf f.type)) = xs[j]?) → xs.length = gs.length →
      (DataW.weightsEach P (gs.map (·.type)) (xs.map (·.1))).all (· ≤ reachBytes) = true →
      ∃ avs, TypedL (Typed P n) (gs.map (·.type)) avs ∧ RepVals μ M0 W avs (cs.drop (pre.map fun f => P.cellsOf f.type).sum) ∧ (∀ c ∈ cs.drop (pre.map fun f => P.cellsOf f.type).sum, one c = true)
  | [], pre, cs, xs, hfs, hlen, hoff, htr, hxl, hw => by
    subst hfs
    refine ⟨[], rfl, ?_, ?_⟩
    · rw [List.drop_eq_nil_of_le (by rw [hlen]; simp)]; simp only [RepVals]
    · rw [List.drop_eq_nil_of_le (by rw [hlen]; simp)]; simp
  | g :: gs, pre, cs, xs, hfs, hlen, hoff, htr, hxl, hw => by
    cases xs with
    | nil => simp at hxl
    | cons x xs =>
      have h0 := htr 0 g rfl
      have o0 := hoff 0 g rfl
      simp only [List.take_zero, List.append_nil] at o0
      simp only [List.getElem?_cons_zero] at h0
      simp only [List.map_cons, DataW.weightsEach, List.all_append, Bool.and_eq_true] at hw
      obtain ⟨a, ha1, ha2, ha3⟩ := ihf g.type _ x ⟨g, by rw [hfs]; simp, rfl⟩ h0 hw.1
      obtain ⟨b, hb1, hb2, hb3⟩ := fields_rep ihf gs (pre ++ [g]) cs xs (by rw [hfs]; simp) hlen (fun j f hj => by have := hoff (j + 1) f hj; simpa using this) (fun j f hj => by have := htr (j + 1) f hj; simpa using this) (by simpa using hxl) hw.2
      have hsum : ((pre ++ [g]).map fun f => P.cellsOf f.type).sum = g.offset + P.cellsOf g.type := by rw [o0]; simp
      rw [hsum] at hb2 hb3
      rw [← o0]
      have hsplit : cs.drop g.offset = (cs.drop g.offset).take (P.cellsOf g.type) ++ cs.drop (g.offset + P.cellsOf g.type) := by
        rw [← List.drop_drop]; exact (List.take_append_drop _ _).symm
      refine ⟨a ++ b, ⟨a, b, rfl, ha1, hb1⟩, ?_, ?_⟩
      · rw [hsplit]; exact repVals_app _ _ _ _ ha2 hb2
      · rw [hsplit]; intro c hc
        rcases List.mem_append.1 hc with hc | hc
        · exact ha3 c hc
        · exact hb3 c hc

theorem cells_rep (b : Nat) : ∀ (avs : List AV) (cs : List Value) (o : Nat), RepVals μ M0 W avs cs → (∀ c ∈ cs, one c = true) → (∀ i, i < cs.length → W.cell? ⟨b, o + i, none⟩ = cs[i]?) → RepCells μ M0 W avs b o
  | [], cs, o, _, _, _ => by simp only [RepCells]
  | a :: avs, cs, o, h, h1, h2 => by
    simp only [RepVals] at h
    obtain ⟨x, xs, rfl, h3, h4⟩ := h
    simp only [RepCells]
    refine ⟨⟨x, by simpa using h2 0 (by simp), h1 x (by simp), h3⟩, cells_rep b avs xs (o + 1) h4 (fun c hc => h1 c (by simp [hc])) fun i hi => ?_⟩
    have := h2 (i + 1) (by simp; omega)
    rw [show o + 1 + i = o + (i + 1) by omega]; simpa using this

theorem row_rep (b s : Nat) : ∀ (es : List (List AV)) (o : Nat), (∀ i x, es[i]? = some x → RepCells μ M0 W x b (o + i * s)) → RepRow μ M0 W s es b o
  | [], o, _ => by simp only [RepRow]
  | e :: es, o, h => by
    simp only [RepRow]
    refine ⟨by simpa using h 0 e rfl, row_rep b s es (o + s) fun i x hx => ?_⟩
    have := h (i + 1) x (by simpa using hx)
    rw [show o + (i + 1) * s = o + s + i * s by rw [Nat.add_mul]; omega] at this
    exact this



theorem weightsAll_mem {e : TypeId} : ∀ {ds : List (DataW H)} {p : Nat → Bool}, (DataW.weightsAll P e ds).all p = true → ∀ d ∈ ds, (DataW.weights P e d).all p = true
  | [], _, _, d, hd => by simp at hd
  | x :: ds, p, h, d, hd => by
    simp only [DataW.weightsAll, List.all_append, Bool.and_eq_true] at h
    rcases List.mem_cons.1 hd with rfl | hd
    · exact h.1
    · exact weightsAll_mem h.2 d hd

theorem trod_rep {T : List TypeId} (hT : closedB P T = true) : ∀ (fuel : Nat) (t : TypeId) (cs : List Value) (x : DataW H × List MemPlace), t ∈ T →
    DataW.trod enc P W 0 (fun _ => true) true fuel t cs = some x → (DataW.weights P t x.1).all (· ≤ reachBytes) = true →
    ∃ avs, Typed P fuel t avs ∧ RepVals μ M0 W avs cs ∧ (∀ c ∈ cs, one c = true)
  | 0, t, cs, x, _, h, _ => by simp [DataW.trod] at h
  | fuel + 1, t, cs, x, ht, h, hw => by
    have hc := (List.all_eq_true.1 hT) t ht
    simp only [Typed]
    split at hc
    · rename_i hu
      obtain ⟨b, rfl, rfl⟩ := DataW.trod_bool hu h
      exact ⟨[.bool b], by simp [hu], by simp only [RepVals, Rep]; exact ⟨_, [], rfl, rfl, rfl⟩, by simp [one]⟩
    · rename_i k hu
      obtain ⟨n, rfl, rfl, hwf⟩ := DataW.trod_int hu h
      exact ⟨[.int k n], by simp [hu, hwf], by simp only [RepVals, Rep]; exact ⟨_, [], rfl, rfl, rfl⟩, by simp [one]⟩
    · rename_i hu
      obtain ⟨s, rfl, rfl, hm⟩ := DataW.trod_string hu h
      have hle : s.data.toList.length ≤ reachBytes := by simpa [DataW.weights] using hw
      refine ⟨[.str s.data.toList], by simp [hu]; simpa using hle, ?_, by simp [one]⟩
      simp only [RepVals, Rep]
      refine ⟨_, [], rfl, ⟨?_, ?_⟩, rfl⟩
      · simp [strV]
      · unfold strMax; unfold maxLen at hm; have : s.data.toList.length = s.size := by simp
        omega
    · rename_i e hu
      simp only [Bool.and_eq_true, decide_eq_true_eq, beq_iff_eq, List.contains_iff_mem] at hc
      obtain ⟨⟨⟨he, hce⟩, hbe⟩, _⟩ := hc
      rcases DataW.trod_slice hu h with ⟨rfl, rfl⟩ | ⟨a, len, cap, elems, rest, n, hn, rfl, rfl, _, hl, hm, hlen, hel, _, _⟩
      · refine ⟨[.sl (P.cellsOf e) [] 0], ?_, ?_, by simp [one]⟩
        · exact ⟨[], rfl, by simp, by simp⟩
        · simp only [RepVals]
          exact ⟨_, [], rfl, Wk.nil _ _ _ _ _ (by simp [Rep, one]), rfl⟩
      · obtain rfl : n = fuel := by omega
        simp only [DataW.weights, hu, List.all_cons, List.all_append, Bool.and_eq_true, decide_eq_true_eq, List.length_map] at hw
        obtain ⟨hwb, hwe, _⟩ := hw
        have each : ∀ i, i < len → ∃ avs cs', Typed P n e avs ∧ RepVals μ M0 W avs cs' ∧ (∀ c ∈ cs', one c = true) ∧ W.cells? 0 (a.add (i * P.cellsOf e)) (P.cellsOf e) = some cs' := by
          intro i hi
          have h1 := hel i hi
          rw [List.getElem?_eq_getElem (by omega)] at h1
          obtain ⟨cs', h2, h3⟩ := Option.bind_eq_some_iff.1 h1
          obtain ⟨avs, a1, a2, a3⟩ := trod_rep hT n e cs' _ he h3 (weightsAll_mem hwe _ (List.mem_map.2 ⟨_, List.getElem_mem _, rfl⟩))
          exact ⟨avs, cs', a1, a2, a3, h2⟩
        obtain ⟨V, hV⟩ := Go.Deep.choose_lt (α := List AV × List Value) (n := len) (p := fun i v => Typed P n e v.1 ∧ RepVals μ M0 W v.1 v.2 ∧ (∀ c ∈ v.2, one c = true) ∧ W.cells? 0 (a.add (i * P.cellsOf e)) (P.cellsOf e) = some v.2)
          (fun i hi => by obtain ⟨avs, cs', h1⟩ := each i hi; exact ⟨(avs, cs'), h1⟩)
        have hlb : len * P.bytesOf e ≤ reachBytes := Nat.le_trans (Nat.mul_le_mul_right _ (by omega)) hwb
        have hll : len ≤ len * P.bytesOf e := Nat.le_mul_of_pos_right _ hbe
        refine ⟨[.sl (P.cellsOf e) ((List.range len).map fun i => (V i).1) len], ?_, ?_, by simp [one]⟩
        · refine ⟨(List.range len).map fun i => (V i).1, by simp, by simpa using hlb, fun x hx => ?_⟩
          obtain ⟨i, hi, rfl⟩ := List.mem_map.1 hx
          exact (hV i (List.mem_range.1 hi)).1
        · simp only [RepVals]
          refine ⟨_, [], rfl, ?_, rfl⟩
          simp only [Rep]
          have hrl : ∀ i, i < len → (V i).1.length = P.cellsOf e := fun i hi => by
            obtain ⟨_, h2, _, h4⟩ := hV i hi
            rw [← h2.length]; exact (World.cells?_some h4).2.1
          refine ⟨some a, cap, rfl, by simp, by simpa using hl, by simp [lenMax]; unfold reachBytes at hlb; omega, ?_, ?_⟩
          · intro x hx
            obtain ⟨i, hi, rfl⟩ := List.mem_map.1 hx
            exact hrl i (List.mem_range.1 hi)
          · by_cases h0 : len = 0
            · left; simp [h0]
            · right
              obtain ⟨_, hlen0, hcell⟩ := World.cells?_some (hV 0 (by omega)).2.2.2
              have g0 := hcell 0 hce
              obtain ⟨c0, hc0⟩ : ∃ c, (V 0).2[0]? = some c := ⟨_, List.getElem?_eq_getElem (by omega)⟩
              rw [hc0] at g0
              have hspot : a.spot = none := by simpa [Addr.add] using World.cell?_spot g0
              obtain ⟨b, o, sp⟩ := a
              simp only at hspot
              subst hspot
              refine ⟨b, o, rfl, cell_lt (b := b) (o := o) (v := c0) (by simpa [Addr.add] using g0), fun h => h.elim, row_rep b _ _ o fun i x hx => ?_⟩
              have hi : i < len := by have := (List.getElem?_eq_some_iff.1 hx).1; simpa using this
              have hxe : x = (V i).1 := by
                rw [List.getElem?_map, List.getElem?_range hi] at hx; simpa using hx.symm
              subst hxe
              obtain ⟨_, h2, h3, h4⟩ := hV i hi
              obtain ⟨_, hl4, hc4⟩ := World.cells?_some h4
              refine cells_rep b _ _ _ h2 h3 fun j hj => ?_
              have := hc4 j (by omega)
              rw [add_plain, add_plain] at this
              simpa [Nat.add_assoc] using this
    · rename_i fs hu
      simp only [Bool.and_eq_true, beq_iff_eq, List.all_eq_true, List.contains_iff_mem] at hc
      obtain ⟨⟨hft, hsz⟩, hoff⟩ := hc
      obtain ⟨xs, n, hn, rfl, hl, hxl, hx⟩ := DataW.trod_struct hu h
      obtain rfl : n = fuel := by omega
      simp only [DataW.weights, hu] at hw
      have hfl : ∀ (j : Nat) (f : Field), fs.toList[j]? = some f → f.offset = ((fs.toList.take j).map fun f => P.cellsOf f.type).sum := fun j f hj => by
        have := hoff j (List.mem_range.2 (List.getElem?_eq_some_iff.1 hj).1)
        rw [hj] at this; simpa using this
      obtain ⟨avs, h1, h2, h3⟩ := fields_rep (enc := enc) (P := P) (W := W) (μ := μ) (fs := fs.toList) (n := n)
        (fun t cs x ⟨f, hf, e⟩ h k => by subst e; exact trod_rep hT n f.type cs x (hft f hf) h k) fs.toList [] cs xs rfl (by rw [hl, hsz]) (fun j f hj => by simpa using hfl j f hj)
        (fun j f hj => hx j f (by simpa using hj)) (by simpa using hxl) hw
      simp only [List.map_nil, List.sum_nil, List.drop_zero] at h2 h3
      exact ⟨avs, h1, h2, h3⟩
    · cases hc
end
end Go.Proofs.Ytmlllckecalaaaa.Eng

namespace Go.Proofs.Ytmlllckecalaaaa.Eng
open Go Go.WideShapes Go.ChangeShapes Go.RowKit Go.ChangeAt

/-! ## A law's row out of its contract -/
/-- An argument of this type. -/
def ArgT (P : Program) (t : TypeId) (a : AV) : Prop := ∃ fuel avs, Typed P fuel t avs ∧ a = mk (isAggB P t) avs
def ArgsT (P : Program) : List TypeId → List AV → Prop
  | [], avl => avl = []
  | t :: ts, avl => ∃ a r, avl = a :: r ∧ ArgT P t a ∧ ArgsT P ts r

section
variable {H : Type} {enc : TypeId × Value → H} {P : Program} {W : World} {μ : Mu}

theorem arg_rep {T : List TypeId} (hT : closedB P T = true) {t : TypeId} (ht : t ∈ T) {base : Nat} {v : Value} {d : DataW H} {ps : List MemPlace} (hv : Value.okWide P W .any base t v)
    (h : DataW.Trod enc P W 0 (fun _ => true) true t v d ps) (hw : (DataW.weights P t d).all (· ≤ reachBytes) = true) : ∃ a, ArgT P t a ∧ Rep μ M0 W a v := by
  obtain ⟨fuel, hf⟩ := h
  obtain ⟨avs, h1, h2, h3⟩ := trod_rep (μ := μ) hT fuel t _ _ ht hf hw
  refine ⟨mk (isAggB P t) avs, ⟨fuel, avs, h1, rfl⟩, ?_⟩
  have hc := (List.all_eq_true.1 hT) t ht
  have flat : ∀ x, v = x → (∀ cs, x ≠ .agg cs) → isAggB P t = false → Rep μ M0 W (mk (isAggB P t) avs) v := by
    rintro x rfl hx ha
    have hcs : v.cells = #[v] := by
      cases v <;> first | rfl | exact absurd rfl (hx _)
    rw [hcs] at h2
    rw [ha]
    match avs, h2 with
    | [a], h2 =>
      simp only [RepVals] at h2
      obtain ⟨x, _, e, h2, rfl⟩ := h2
      simp only [List.cons.injEq, and_true] at e
      subst e
      simpa [mk] using h2
    | [], h2 => simp only [RepVals] at h2; cases h2
    | _ :: _ :: _, h2 =>
      simp only [RepVals] at h2
      obtain ⟨_, _, e, _, _, _, rfl, _⟩ := h2
      cases e
  split at hc
  · rename_i hu
    obtain ⟨b, e⟩ := okWide_bool hu hv
    exact flat _ e (by intro cs h; cases h) (by simp [isAggB, hu])
  · rename_i k hu
    obtain ⟨b, e⟩ := okWide_int hu hv
    exact flat _ e (by intro cs h; cases h) (by simp [isAggB, hu])
  · rename_i hu
    obtain ⟨b, e⟩ := okWide_string hu hv
    exact flat _ e (by intro cs h; cases h) (by simp [isAggB, hu])
  · rename_i e hu
    obtain ⟨a, len, cap, e⟩ := okWide_slice hu hv
    exact flat _ e (by intro cs h; cases h) (by simp [isAggB, hu])
  · rename_i fs hu
    obtain ⟨cs, rfl, _⟩ := okWide_struct hu hv
    have ha : isAggB P t = true := by simp [isAggB, hu]
    rw [ha]
    simp only [mk, Rep, if_true]
    simp only [Value.cells] at h2 h3
    exact ⟨cs, rfl, h2, h3⟩
  · cases hc

theorem args_rep {T : List TypeId} (hT : closedB P T = true) {base : Nat} : ∀ (ts : List TypeId) (vs : List Value) (ds : List (DataW H)) (ps : List MemPlace), (∀ t ∈ ts, t ∈ T) →
    (∀ (j : Nat) t v, ts[j]? = some t → vs[j]? = some v → Value.okWide P W .any base t v) → DataW.TrodAll enc P W 0 (fun _ => true) true ts vs ds ps →
    (DataW.weightsEach P ts ds).all (· ≤ reachBytes) = true → ∃ avl, ArgsT P ts avl ∧ RepVals μ M0 W avl vs ∧ ds.length = ts.length
  | [], vs, ds, ps, _, _, h, _ => by
    obtain ⟨rfl, rfl, rfl⟩ := trodAll_nil h
    exact ⟨[], rfl, by simp only [RepVals], rfl⟩
  | t :: ts, vs, ds, ps, hin, hval, h, hw => by
    obtain ⟨v, vs', d, ds', p, q, rfl, rfl, rfl, h1, h2⟩ := trodAll_cons h
    simp only [DataW.weightsEach, List.all_append, Bool.and_eq_true] at hw
    obtain ⟨a, ha, hr⟩ := arg_rep (μ := μ) hT (hin t (by simp)) (hval 0 t v rfl rfl) h1 hw.1
    obtain ⟨avl, hs, hrs, hl⟩ := args_rep hT ts vs' ds' q (fun t ht => hin t (by simp [ht])) (fun j t v h k => hval (j + 1) t v (by simpa using h) (by simpa using k)) h2 hw.2
    exact ⟨a :: avl, ⟨a, avl, rfl, ha, hs⟩, by simp only [RepVals]; exact ⟨v, vs', rfl, hr, hrs⟩, by simp [hl]⟩

theorem below_trodAll (hl : laidOutB P = true) {W' : World} (hb : Below W.heap.size W W') : ∀ (ts : List TypeId) (vs : List Value) (ds : List (DataW H)) (ps : List MemPlace), (∀ t ∈ ts, P.readableRec t = true ∧ t < P.types.size) →
    DataW.TrodAll enc P W 0 (fun _ => true) true ts vs ds ps → DataW.TrodAll enc P W' 0 (fun b => decide (b < W.heap.size)) true ts vs ds ps
  | [], vs, ds, ps, _, h => by
    obtain ⟨rfl, rfl, rfl⟩ := trodAll_nil h
    exact trodAll_mk0
  | t :: ts, vs, ds, ps, hr, h => by
    obtain ⟨v, vs', d, ds', p, q, rfl, rfl, rfl, h1, h2⟩ := trodAll_cons h
    have lt : ∀ x ∈ p, x.block < W.heap.size := by obtain ⟨m, hm⟩ := h1; exact DataW.trod_lt m _ _ _ hm
    exact ⟨p, q, Below.trod hl (hr t (by simp)).1 (hr t (by simp)).2 h1 hb lt, below_trodAll hl hb ts vs' ds' q (fun t ht => hr t (by simp [ht])) h2, rfl⟩
end

def S0 : Store := ⟨fun _ => none, 0⟩
theorem mut0 (μ : Mu) : Mut μ S0 = M0 := by
  funext b; apply propext; constructor
  · rintro ⟨l, o, c, h, _⟩; cases h
  · exact fun h => h.elim
theorem repr0 (W : World) : Repr (fun _ => none) S0 W := ⟨fun l o e => by simp [S0] at e, fun l l' o o' c c' h => by simp [S0] at h, fun l c h => by simp at h⟩

theorem law_contract {C : Checked} {f : FuncId} {fn : Func} {s : ChangeSpec} {ts : List TypeId} {tb : TypeId} {T : List TypeId}
    (hts : fn.params.toList = ts) (hr : fn.resultTypes = #[tb]) (hb : C.prog.underlying tb = some .bool)
    (hvars : s.vars = []) (hspec : ∀ (H : Type) (ds : List (DataW H)), ds.length = ts.length → s.fn H ds = { results := [.lit (.bool true)], args := ds })
    (hT : closedB C.prog T = true) (hin : ∀ t ∈ ts, t ∈ T) (hl : laidOutB C.prog = true) (hread : ∀ t ∈ ts, C.prog.readableRec t = true ∧ t < C.prog.types.size)
    {H : Type} {enc : TypeId × Value → H} (W : World) (base : Nat) (args : Array Value) (ds gs : List (DataW H)) (before : List MemPlace)
    (contract : ∀ avl, ArgsT C.prog ts avl → Pure C.prog f avl (.bool true))
    (hval : ∀ (j : Nat) t v, fn.params[j]? = some t → args[j]? = some v → Value.okWide C.prog W .any base t v)
    (hW : DataW.Whole enc C.prog fn.params.toList s.vars false W args.toList ds gs before)
    (hsz : (DataW.weightsEach C.prog (fn.params.toList ++ s.plain.varTypes C.prog) (ds ++ gs)).all (· ≤ reachBytes) = true) :
    Calls C.prog f args W fun e W' => ∃ v, e = .returned v ∧ s.post enc C.prog fn false true false false W args v W' := by
  have hW' := hW
  obtain ⟨p, q, hA, hV, rfl, hfz, hnd⟩ := hW
  rw [hts] at hA hsz
  rw [hvars] at hV
  obtain ⟨rfl, rfl⟩ := trodVars_none hV
  have hvt : s.plain.varTypes C.prog = [] := by simp [ChangeSpec.plain, DataSpec.varTypes, hvars]
  rw [hvt, List.append_nil, List.append_nil] at hsz
  obtain ⟨avl, h1, h2, h3⟩ := args_rep (μ := fun _ => none) (base := base) hT ts args.toList ds p hin (fun j t v a b => hval j t v (by rw [← hts] at a; simpa using a) (by simpa using b)) hA hsz
  have hc := contract avl h1 S0 (fun _ => none) W args.toList (repr0 W) (by rw [mut0]; exact h2)
  rw [show args.toList.toArray = args by simp] at hc
  refine hc.mono fun e W' ⟨μ', S', r, ⟨hr1, hr2⟩, hR, hK, hE⟩ => ?_
  subst hr1
  have he : e = .returned (.bool true) := by
    cases e with
    | returned v => simp only [RepEnd, Rep] at hE; rw [hE]
    | _ => exact hE.elim
  subst he
  have bel : Below W.heap.size W W' := ⟨hK.os, hK.tape, hK.output, hK.size, fun k hk => hK.heap k hk (by rw [mut0]; exact fun h => h.elim)⟩
  have hsp := hspec H ds (by simpa using h3)
  refine ⟨_, rfl, ds, [], p ++ [], [], p, [], hW', ?_, ?_, ?_, bel.frame _, fun h => by cases h⟩
  · rw [List.append_nil, hsp, hr]
    exact trodAll_mk1 (shut_bool hb _)
  · rw [List.append_nil, hsp, hts]
    exact below_trodAll hl bel ts _ _ _ hread hA
  · rw [List.append_nil, hsp, hvars]
    rfl

theorem lifted {C : Checked} {os : Os} (own : ownKnob C.prog.godebug = none) (started : os.Started) {f : FuncId} {fn : Func} {s : ChangeSpec} {ts : List TypeId} {tb : TypeId} {T : List TypeId}
    (noInit : C.prog.inits.idxOf? f = none) (hf : C.prog.funcs[f]? = some fn) (hts : fn.params.toList = ts) (hr : fn.resultTypes = #[tb]) (hb : C.prog.underlying tb = some .bool)
    (hvars : s.vars = []) (hspec : ∀ (H : Type) (ds : List (DataW H)), ds.length = ts.length → s.fn H ds = { results := [.lit (.bool true)], args := ds })
    (hT : closedB C.prog T = true) (hin : ∀ t ∈ ts, t ∈ T) (hl : laidOutB C.prog = true) (hread : ∀ t ∈ ts, C.prog.readableRec t = true ∧ t < C.prog.types.size)
    {H : Type} {enc : TypeId × Value → H}
    (witness : ∃ (w : World) (tape : Tape) (i : Input), w.os = os ∧ (w.forCall tape i).Shaped C.prog ∧ i.vars = [] ∧ Input.okWide C.prog (w.forCall tape i) .any w.heap.size f i ∧
      s.pre6 enc C.prog fn [] false (w.forCall tape i).memory i.args ∧ Assume.holds {} C.prog (lone (Frame.enter C.prog f i.args .normal) [] (w.forCall tape i)))
    (contract : ∀ avl, ArgsT C.prog ts avl → Pure C.prog f avl (.bool true)) :
    ReturnsInHanded {} C os f .any (s.pre6 enc C.prog fn [] false) (s.post enc C.prog fn false true false false) := by
  refine returnsInHanded_of_change_sized (C := C) own started noInit hf witness ?_
  intro W base args ds gs before hval hW _ hsz _
  exact law_contract hts hr hb hvars hspec hT hin hl hread W base args ds gs before contract hval hW hsz

/-- The second form. -/
theorem liftedU {C : Checked} {os : Os} (own : ownKnob C.prog.godebug = none) (started : os.Started) {f : FuncId} {fn : Func} {s : ChangeSpec} {ts : List TypeId} {tb : TypeId} {T : List TypeId} {k : (H : Type) → List (DataW H) → Bool}
    (noInit : C.prog.inits.idxOf? f = none) (hf : C.prog.funcs[f]? = some fn) (hts : fn.params.toList = ts) (hr : fn.resultTypes = #[tb]) (hb : C.prog.underlying tb = some .bool)
    (hvars : s.vars = []) (hspec : ∀ (H : Type) (ds : List (DataW H)), ds.length = ts.length → s.fn H ds = { results := [.lit (.bool true)], args := ds })
    (hT : closedB C.prog T = true) (hin : ∀ t ∈ ts, t ∈ T) (hl : laidOutB C.prog = true) (hread : ∀ t ∈ ts, C.prog.readableRec t = true ∧ t < C.prog.types.size)
    {H : Type} {enc : TypeId × Value → H} {F : Stop.Interp}
    (witness : ∃ (w : World) (tape : Tape) (i : Input), w.os = os ∧ (w.forCall tape i).Shaped C.prog ∧ i.vars = [] ∧ Input.okWide C.prog (w.forCall tape i) .any w.heap.size f i ∧
      ({ OpenSpec.ofChange s with cond := some k } : OpenSpec).pre6 enc C.prog fn [] false (w.forCall tape i).memory i.args ∧ Assume.holds {} C.prog (lone (Frame.enter C.prog f i.args .normal) [] (w.forCall tape i)))
    (contract : ∀ avl, ArgsT C.prog ts avl → Pure C.prog f avl (.bool true)) :
    ReturnsInHanded {} C os f .any (({ OpenSpec.ofChange s with cond := some k } : OpenSpec).pre6 enc C.prog fn [] false) ((({ OpenSpec.ofChange s with cond := some k } : OpenSpec).at F).post enc C.prog fn false true false false) := by
  refine returnsInHanded_of_cond_sized (C := C) (s := { OpenSpec.ofChange s with cond := some k }) (k := k) rfl own started noInit hf witness ?_
  intro W base args ds gs before hval hW _ _ hsz _
  exact law_contract (s := s) hts hr hb hvars hspec hT hin hl hread W base args ds gs before contract hval hW hsz
end Go.Proofs.Ytmlllckecalaaaa.Eng

namespace Go.Proofs.Ytmlllckecalaaaa.Eng
open Go Go.Proofs.Try

theorem typed_int {P : Program} {fuel t k avs} (hu : P.underlying t = some (.int k)) (h : Typed P fuel t avs) : ∃ n, avs = [.int k n] ∧ (Lit.int k n).wf = true := by
  cases fuel with
  | zero => exact h.elim
  | succ fuel => simpa only [Typed, hu] using h
theorem typed_bool {P : Program} {fuel t avs} (hu : P.underlying t = some .bool) (h : Typed P fuel t avs) : ∃ b, avs = [.bool b] := by
  cases fuel with
  | zero => exact h.elim
  | succ fuel => simpa only [Typed, hu] using h
theorem typed_str {P : Program} {fuel t avs} (hu : P.underlying t = some .string) (h : Typed P fuel t avs) : ∃ l : List UInt8, avs = [.str l] ∧ l.length ≤ reachBytes := by
  cases fuel with
  | zero => exact h.elim
  | succ fuel => simpa only [Typed, hu] using h
theorem typed_slice {P : Program} {fuel t e avs} (hu : P.underlying t = some (.slice e)) (h : Typed P fuel t avs) :
    ∃ n, n < fuel ∧ ∃ es : List (List AV), avs = [.sl (P.cellsOf e) es es.length] ∧ es.length * P.bytesOf e ≤ reachBytes ∧ (∀ x ∈ es, Typed P n e x) := by
  cases fuel with
  | zero => exact h.elim
  | succ fuel => exact ⟨fuel, by omega, by simpa only [Typed, hu] using h⟩
theorem typed_struct {P : Program} {fuel t fs avs} (hu : P.underlying t = some (.struct fs)) (h : Typed P fuel t avs) :
    ∃ n, n < fuel ∧ TypedL (Typed P n) (fs.toList.map (·.type)) avs := by
  cases fuel with
  | zero => exact h.elim
  | succ fuel => exact ⟨fuel, by omega, by simpa only [Typed, hu] using h⟩

theorem i64_wf {n : Int} (h : (Lit.int .i64 n).wf = true) : i64ok n := by
  simp only [Lit.wf, Bool.and_eq_true, decide_eq_true_eq] at h
  have h1 : IntKind.i64.min = -9223372036854775808 := rfl
  have h2 : IntKind.i64.max = 9223372036854775807 := rfl
  unfold i64ok
  omega

theorem elems_of {P : Elem → Prop} : ∀ (es : List (List AV)), (∀ x ∈ es, ∃ e, x = encE e ∧ P e) → ∃ ks, es = encEs ks ∧ ∀ k ∈ ks, P k
  | [], _ => ⟨[], rfl, by simp⟩
  | x :: es, h => by
    obtain ⟨e, he, hp⟩ := h x (by simp)
    obtain ⟨ks, hk, hq⟩ := elems_of es fun y hy => h y (by simp [hy])
    refine ⟨e :: ks, by rw [encEs, he, hk], fun k hk => ?_⟩
    rcases List.mem_cons.1 hk with rfl | hk
    · exact hp
    · exact hq k hk

theorem typed_elem (fuel : Nat) : ∀ avs, Typed prog fuel 24 avs → ∃ e, avs = encE e ∧ okE e := by
  induction fuel using Nat.strongRecOn with
  | _ fuel ih =>
  intro avs h
  obtain ⟨n, hn, h⟩ := typed_struct underlying24 h
  simp only [List.map_cons, List.map_nil, TypedL] at h
  obtain ⟨a1, r1, rfl, h1, a2, r2, rfl, h2, a3, r3, rfl, h3, a4, r4, rfl, h4, a5, r5, rfl, h5, rfl⟩ := h
  obtain ⟨c, rfl, hc⟩ := typed_int underlying3 h1
  obtain ⟨t, rfl, ht⟩ := typed_int underlying3 h2
  obtain ⟨b, rfl⟩ := typed_bool underlying4 h3
  obtain ⟨s, rfl, hs⟩ := typed_str underlying9 h4
  obtain ⟨m, hm, es, rfl, hl, hx⟩ := typed_slice underlying22 h5
  obtain ⟨ks, rfl, hks⟩ := elems_of es fun x hx' => ih m (by omega) x (hx x hx')
  have hb : prog.bytesOf 24 = 64 := by kernel_rfl
  have hcell : prog.cellsOf 24 = 5 := by kernel_rfl
  rw [hb, encEs_length] at hl
  refine ⟨.mk c t b s ks [], by rw [hcell, encE]; simp [encEs_length], ?_⟩
  simp only [okE]
  exact ⟨i64_wf hc, i64_wf ht, hs, hl, okEs_of ks hks⟩

theorem arg_elem {a : AV} (h : ArgT prog 24 a) : ∃ e, a = .agg (encE e) ∧ okE e := by
  obtain ⟨fuel, avs, h1, rfl⟩ := h
  obtain ⟨e, rfl, he⟩ := typed_elem fuel avs h1
  exact ⟨e, by have : isAggB prog 24 = true := by kernel_rfl
               rw [this]; rfl, he⟩

theorem arg_int {a : AV} (h : ArgT prog 3 a) : ∃ n, a = .int .i64 n ∧ i64ok n := by
  obtain ⟨fuel, avs, h1, rfl⟩ := h
  obtain ⟨n, rfl, hn⟩ := typed_int underlying3 h1
  exact ⟨n, by have : isAggB prog 3 = false := by kernel_rfl
               rw [this]; rfl, i64_wf hn⟩
theorem arg_str {a : AV} (h : ArgT prog 9 a) : ∃ l : List UInt8, a = .str l ∧ l.length ≤ maxB := by
  obtain ⟨fuel, avs, h1, rfl⟩ := h
  obtain ⟨n, rfl, hn⟩ := typed_str underlying9 h1
  exact ⟨n, by have : isAggB prog 9 = false := by kernel_rfl
               rw [this]; rfl, hn⟩
theorem arg_bool {a : AV} (h : ArgT prog 4 a) : ∃ b, a = .bool b := by
  obtain ⟨fuel, avs, h1, rfl⟩ := h
  obtain ⟨n, rfl⟩ := typed_bool underlying4 h1
  exact ⟨n, by have : isAggB prog 4 = false := by kernel_rfl
               rw [this]; rfl⟩

def Tber : List TypeId := [3, 4, 9, 22, 24]
theorem closed_ber : closedB prog Tber = true := by kernel_rfl
theorem laid_ber : laidOutB prog = true := by kernel_rfl
theorem own_ber : ownKnob prog.godebug = none := by kernel_rfl
end Go.Proofs.Ytmlllckecalaaaa.Eng
