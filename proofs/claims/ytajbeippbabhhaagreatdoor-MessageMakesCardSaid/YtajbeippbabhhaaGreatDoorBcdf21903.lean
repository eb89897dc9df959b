import Derived.Test.YtajbeippbabhhaaGreatDoorB8eb5d843
set_option linter.unusedVariables false
set_option linter.unusedSimpArgs false
namespace Go.Proofs.YtajbeippbabhhaaGreatDoor.Eng
open Go Go.Proofs.Tryz

/-! ## MessageMakes -/
def oneL : List Int := [0, 6, 8, 10, 12, 14, 23]
theorem cr_Reply (n : Int) : Pure prog 31 [.int .i64 n] (.int .i64 (replyS n)) := by
  refine Pure.of (fun _ _ => by simp only [nm]) fun S => acalls_of_vc lowr9_Reply (by simp) ?_
  have key : ∀ k ∈ oneL, n = k → (AEnd.ret (AV.int .i64 (IntKind.i64.wrap (n + 1))) = AEnd.ret (.int .i64 (replyS n))) := by
    intro k hk hn
    subst hn
    simp only [oneL, List.mem_cons, List.not_mem_nil, or_false] at hk
    rcases hk with h | h | h | h | h | h | h <;> rw [h] <;> (refine congrArg (fun z => AEnd.ret (AV.int .i64 z)) ?_; decide)
  by_cases h0 : n = 0
  · simp -implicitDefEqProofs only [Br9_Reply, eq_true h0, decide_true, go_sem, reduceIte, Nat.reduceEqDiff, Nat.reduceAdd, Nat.reduceLeDiff, Nat.reduceLT, decide_true, decide_false, vc_cond2, vcGrps_guard2, vcD_val2, vcD_guard2]
    exact ⟨key 0 (by decide) h0, Ext.refl _⟩
  by_cases h6 : n = 6
  · simp -implicitDefEqProofs only [Br9_Reply, eq_false h0, eq_true h6, decide_true, decide_false, go_sem, reduceIte, Nat.reduceEqDiff, Nat.reduceAdd, Nat.reduceLeDiff, Nat.reduceLT, decide_true, decide_false, vc_cond2, vcGrps_guard2, vcD_val2, vcD_guard2]
    exact ⟨key 6 (by decide) h6, Ext.refl _⟩
  by_cases h8 : n = 8
  · simp -implicitDefEqProofs only [Br9_Reply, eq_false h0, eq_false h6, eq_true h8, decide_true, decide_false, go_sem, reduceIte, Nat.reduceEqDiff, Nat.reduceAdd, Nat.reduceLeDiff, Nat.reduceLT, decide_true, decide_false, vc_cond2, vcGrps_guard2, vcD_val2, vcD_guard2]
    exact ⟨key 8 (by decide) h8, Ext.refl _⟩
  by_cases h10 : n = 10
  · simp -implicitDefEqProofs only [Br9_Reply, eq_false h0, eq_false h6, eq_false h8, eq_true h10, decide_true, decide_false, go_sem, reduceIte, Nat.reduceEqDiff, Nat.reduceAdd, Nat.reduceLeDiff, Nat.reduceLT, decide_true, decide_false, vc_cond2, vcGrps_guard2, vcD_val2, vcD_guard2]
    exact ⟨key 10 (by decide) h10, Ext.refl _⟩
  by_cases h12 : n = 12
  · simp -implicitDefEqProofs only [Br9_Reply, eq_false h0, eq_false h6, eq_false h8, eq_false h10, eq_true h12, decide_true, decide_false, go_sem, reduceIte, Nat.reduceEqDiff, Nat.reduceAdd, Nat.reduceLeDiff, Nat.reduceLT, decide_true, decide_false, vc_cond2, vcGrps_guard2, vcD_val2, vcD_guard2]
    exact ⟨key 12 (by decide) h12, Ext.refl _⟩
  by_cases h14 : n = 14
  · simp -implicitDefEqProofs only [Br9_Reply, eq_false h0, eq_false h6, eq_false h8, eq_false h10, eq_false h12, eq_true h14, decide_true, decide_false, go_sem, reduceIte, Nat.reduceEqDiff, Nat.reduceAdd, Nat.reduceLeDiff, Nat.reduceLT, decide_true, decide_false, vc_cond2, vcGrps_guard2, vcD_val2, vcD_guard2]
    exact ⟨key 14 (by decide) h14, Ext.refl _⟩
  by_cases h23 : n = 23
  · simp -implicitDefEqProofs only [Br9_Reply, eq_false h0, eq_false h6, eq_false h8, eq_false h10, eq_false h12, eq_false h14, eq_true h23, decide_true, decide_false, go_sem, reduceIte, Nat.reduceEqDiff, Nat.reduceAdd, Nat.reduceLeDiff, Nat.reduceLT, decide_true, decide_false, vc_cond2, vcGrps_guard2, vcD_val2, vcD_guard2]
    exact ⟨key 23 (by decide) h23, Ext.refl _⟩
  by_cases h3 : n = 3
  · simp -implicitDefEqProofs only [Br9_Reply, eq_false h0, eq_false h6, eq_false h8, eq_false h10, eq_false h12, eq_false h14, eq_false h23, eq_true h3, decide_true, decide_false, go_sem, reduceIte, Nat.reduceEqDiff, Nat.reduceAdd, Nat.reduceLeDiff, Nat.reduceLT, decide_true, decide_false, vc_cond2, vcGrps_guard2, vcD_val2, vcD_guard2]
    exact ⟨by rw [h3]; rfl, Ext.refl _⟩
  · simp -implicitDefEqProofs only [Br9_Reply, eq_false h0, eq_false h6, eq_false h8, eq_false h10, eq_false h12, eq_false h14, eq_false h23, eq_false h3, decide_true, decide_false, go_sem, reduceIte, Nat.reduceEqDiff, Nat.reduceAdd, Nat.reduceLeDiff, Nat.reduceLT, decide_true, decide_false, vc_cond2, vcGrps_guard2, vcD_val2, vcD_guard2]
    refine ⟨?_, Ext.refl _⟩
    have : isReq n = false ∨ n = 2 ∨ n = 16 := by
      by_cases h2 : n = 2
      · exact .inr (.inl h2)
      by_cases h16 : n = 16
      · exact .inr (.inr h16)
      left
      simp [isReq, reqL, h0, h2, h3, h6, h8, h10, h12, h14, h16, h23]
    rw [show replyS n = -1 by unfold replyS; rw [if_pos this]]
theorem cr_IsRequest (n : Int) : Pure prog 30 [.int .i64 n] (.bool (isReq n)) := by
  refine Pure.of (fun _ _ => by simp only [nm]) fun S => acalls_of_vc lowr9_IsRequest (by simp) ?_
  simp -implicitDefEqProofs only [Br9_IsRequest, go_sem, reduceIte, Nat.reduceEqDiff, Nat.reduceAdd, Nat.reduceLeDiff, Nat.reduceLT, decide_true, decide_false, vc_cond2, vcGrps_guard2, vcD_val2, vcD_guard2]
  refine (cr_Reply n).use ?_
  by_cases hneg : replyS n < 0
  · have hge : ¬ replyS n ≥ 0 := by omega
    have hc := rep_neg hneg
    by_cases h2 : n = 2
    · simp -implicitDefEqProofs only [eq_false hge, eq_true h2, decide_true, decide_false, go_sem, reduceIte, Nat.reduceEqDiff, Nat.reduceAdd, Nat.reduceLeDiff, Nat.reduceLT, decide_true, decide_false, vc_cond2, vcGrps_guard2, vcD_val2, vcD_guard2]
      exact ⟨by rw [h2]; rfl, Ext.refl _⟩
    by_cases h16 : n = 16
    · simp -implicitDefEqProofs only [eq_false hge, eq_false h2, eq_true h16, decide_true, decide_false, go_sem, reduceIte, Nat.reduceEqDiff, Nat.reduceAdd, Nat.reduceLeDiff, Nat.reduceLT, decide_true, decide_false, vc_cond2, vcGrps_guard2, vcD_val2, vcD_guard2]
      exact ⟨by rw [h16]; rfl, Ext.refl _⟩
    · simp -implicitDefEqProofs only [eq_false hge, eq_false h2, eq_false h16, decide_true, decide_false, go_sem, reduceIte, Nat.reduceEqDiff, Nat.reduceAdd, Nat.reduceLeDiff, Nat.reduceLT, decide_true, decide_false, vc_cond2, vcGrps_guard2, vcD_val2, vcD_guard2]
      rcases hc with h | h | h
      · rw [h]; exact ⟨rfl, Ext.refl _⟩
      · exact absurd h h2
      · exact absurd h h16
  · have hge : replyS n ≥ 0 := by omega
    simp -implicitDefEqProofs only [eq_true hge, decide_true, go_sem, reduceIte, Nat.reduceEqDiff, Nat.reduceAdd, Nat.reduceLeDiff, Nat.reduceLT, decide_true, decide_false, vc_cond2, vcGrps_guard2, vcD_val2, vcD_guard2]
    rw [(rep_pos hneg).1]; exact ⟨rfl, Ext.refl _⟩

theorem cl_makes (id op code : Int) (matched text : Byt) : Pure prog 9 [.int .i64 id, .int .i64 op, .int .i64 code, .str matched, .str text] (.bool true) := by
  refine Pure.of (fun _ _ => by simp only [nm]) fun S => acalls_of_vc lowl9_MessageMakes (by simp) ?_
  have hx := (Ext.refl S).push
  have s1 : Pure prog 20 [.agg (resultM id op code matched text).mv.enc, .agg (((((MV.zero.s0 id).s1 op).s24 code).s25 matched).s26 text).enc] (.bool true) := by
    have := cr_Same (resultM id op code matched text) (resultM id op code matched text)
    rw [sameM_refl] at this
    exact Pure.args (WkL.cons (Wk.refl _) (WkL.cons (MV.wk _ (resultM id op code matched text).mv (nil_nil 7) (nil_nil 1) (nil_nil 3) (nil_nil 2) (nil_nil 4) rfl) WkL.nil)) this
  have s2 : Pure prog 20 [.agg (noticeM code text).mv.enc, .agg ((((MV.zero.s1 24).s24 code).s26 text).s21 noticeOid).enc] (.bool true) := by
    have := cr_Same (noticeM code text) (noticeM code text)
    rw [sameM_refl] at this
    exact Pure.args (WkL.cons (Wk.refl _) (WkL.cons (MV.wk _ (noticeM code text).mv (nil_nil 7) (nil_nil 1) (nil_nil 3) (nil_nil 2) (nil_nil 4) rfl) WkL.nil)) this
  unfold noticeOid at s2
  simp -implicitDefEqProofs only [Bl9_MessageMakes, go_sem, reduceIte, Nat.reduceEqDiff, Nat.reduceAdd, Nat.reduceLeDiff, Nat.reduceLT, decide_true, decide_false, vc_cond2, vcGrps_guard2, vcD_val2, vcD_guard2]
  refine (cm_Result id op code matched text).use ?_
  simp -implicitDefEqProofs only [go_sem, reduceIte, Nat.reduceEqDiff, Nat.reduceAdd, Nat.reduceLeDiff, Nat.reduceLT, decide_true, decide_false, vc_cond2, vcGrps_guard2, vcD_val2, vcD_guard2]
  refine (cm_Notice code text).use ?_
  simp -implicitDefEqProofs only [go_sem, reduceIte, Nat.reduceEqDiff, Nat.reduceAdd, Nat.reduceLeDiff, Nat.reduceLT, decide_true, decide_false, vc_cond2, vcGrps_guard2, vcD_val2, vcD_guard2]
  refine cl_alive.use ?_
  simp -implicitDefEqProofs only [go_sem, reduceIte, Nat.reduceEqDiff, Nat.reduceAdd, Nat.reduceLeDiff, Nat.reduceLT, decide_true, decide_false, vc_cond2, vcGrps_guard2, vcD_val2, vcD_guard2]
  refine (cm_IsRequest op).use ?_
  simp -implicitDefEqProofs only [go_sem, reduceIte, Nat.reduceEqDiff, Nat.reduceAdd, Nat.reduceLeDiff, Nat.reduceLT, decide_true, decide_false, vc_cond2, vcGrps_guard2, vcD_val2, vcD_guard2]
  refine (cr_IsRequest op).use ?_
  simp -implicitDefEqProofs only [decide_true, go_sem, reduceIte, Nat.reduceEqDiff, Nat.reduceAdd, Nat.reduceLeDiff, Nat.reduceLT, decide_true, decide_false, vc_cond2, vcGrps_guard2, vcD_val2, vcD_guard2]
  refine (cm_Reply op).use ?_
  simp -implicitDefEqProofs only [go_sem, reduceIte, Nat.reduceEqDiff, Nat.reduceAdd, Nat.reduceLeDiff, Nat.reduceLT, decide_true, decide_false, vc_cond2, vcGrps_guard2, vcD_val2, vcD_guard2]
  refine (cr_Reply op).use ?_
  simp -implicitDefEqProofs only [decide_true, go_sem, reduceIte, Nat.reduceEqDiff, Nat.reduceAdd, Nat.reduceLeDiff, Nat.reduceLT, decide_true, decide_false, vc_cond2, vcGrps_guard2, vcD_val2, vcD_guard2]
  refine s1.use ?_
  simp -implicitDefEqProofs only [go_sem, reduceIte, Nat.reduceEqDiff, Nat.reduceAdd, Nat.reduceLeDiff, Nat.reduceLT, decide_true, decide_false, vc_cond2, vcGrps_guard2, vcD_val2, vcD_guard2]
  refine s2.use ?_
  simp -implicitDefEqProofs only [go_sem, reduceIte, Nat.reduceEqDiff, Nat.reduceAdd, Nat.reduceLeDiff, Nat.reduceLT, decide_true, decide_false, vc_cond2, vcGrps_guard2, vcD_val2, vcD_guard2]
  exact (((hx _).set _ _ (by omega)).push _).set _ _ (by omega)
end Go.Proofs.YtajbeippbabhhaaGreatDoor.Eng
