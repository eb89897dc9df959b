import Derived.Test.YtajbeippbabhhaaGreatDoorB1ed0f41b
set_option linter.unusedVariables false
set_option linter.unusedSimpArgs false
namespace Go.Proofs.YtajbeippbabhhaaGreatDoor.Eng
open Go Go.Proofs.Tryz

/-! ## The fields that an operation has -/
def bareZ (m : Msg) : Msg := { Msg.zero with id := m.id, op := m.op, controls := m.controls, ctlX := m.ctlX }
def bareM (m : Msg) : Msg :=
  if m.op = 0 then { bareZ m with version := m.version, dn := m.dn, sasl := m.sasl, secret := m.secret }
  else if m.op = 2 then bareZ m
  else if m.op = 3 then { bareZ m with dn := m.dn, scope := m.scope, deref := m.deref, size := m.size, time := m.time, typesOnly := m.typesOnly, filter := m.filter, filX := m.filX, select := m.select, selX := m.selX }
  else if m.op = 6 then { bareZ m with dn := m.dn, mods := m.mods, modX := m.modX }
  else if m.op ∈ [8, 4] then { bareZ m with dn := m.dn, attrs := m.attrs, attX := m.attX }
  else if m.op = 10 then { bareZ m with dn := m.dn }
  else if m.op = 12 then { bareZ m with dn := m.dn, newRdn := m.newRdn, deleteOld := m.deleteOld, hasSup := m.hasSup, newSup := m.newSup }
  else if m.op = 14 then { bareZ m with dn := m.dn, typ := m.typ, value := m.value }
  else if m.op = 16 then { bareZ m with target := m.target }
  else if m.op = 23 then { bareZ m with oid := m.oid, has := m.has, value := m.value }
  else if isRes m.op = true then (if m.op = 24 then { bareZ m with code := m.code, matched := m.matched, text := m.text, oid := m.oid, has := m.has, value := m.value } else { bareZ m with code := m.code, matched := m.matched, text := m.text })
  else bareZ m
def maxN : Int := 2147483647
def bareOk (fv : Bool) (m : Msg) : Bool :=
  if m.op = 0 then decide (1 ≤ m.version ∧ m.version ≤ 127)
  else if m.op = 2 then true
  else if m.op = 3 then inR m.scope 2 && (inR m.deref 3 && (inR m.size maxN && (inR m.time maxN && fv)))
  else if m.op = 6 then !m.mods.any fun c => !inR c.op 2
  else if m.op ∈ [8, 4] then true
  else if m.op = 10 then true
  else if m.op = 12 then m.hasSup || decide (m.newSup = [])
  else if m.op = 14 then true
  else if m.op = 16 then inR m.target maxN
  else if m.op = 23 then m.has || decide (m.value = [])
  else if isRes m.op = true then inR m.code maxN && (!decide (m.op = 24) || (m.has || decide (m.value = [])))
  else false

theorem msg_nm (n : Nat) (m : Msg) : nm n (.agg m.enc) ↔ (nmLL n (m.filter.map Fil.enc ++ m.filX) ∧ nmLL n (encT m.select ++ m.selX) ∧ nmLL n (m.mods.map Mdf.enc ++ m.modX) ∧ nmLL n (m.attrs.map Att.enc ++ m.attX) ∧ nmLL n (m.controls.map Ctl.enc ++ m.ctlX)) := by
  simp only [nm, nmL, Msg.enc, filV, txV, mdfV, attV, ctlV, and_true, true_and]
theorem iteP {p : Msg → Prop} {c : Prop} [Decidable c] {a b : Msg} (h1 : p a) (h2 : p b) : p (if c then a else b) := by
  by_cases h : c
  · rw [if_pos h]; exact h1
  · rw [if_neg h]; exact h2
theorem bare_nm (n : Nat) (m : Msg) (h : nm n (.agg m.enc)) : nm n (.agg (bareM m).enc) := by
  rw [msg_nm] at h
  obtain ⟨h1, h2, h3, h4, h5⟩ := h
  unfold bareM
  repeat' first | exact (show nm n (.agg (bareZ m).enc) by rw [msg_nm]; simp only [bareZ, Msg.zero, encT, List.map_nil, List.append_nil, nmLL, true_and, and_true]; exact h5) | refine iteP (p := fun m => nm n (.agg m.enc)) ?_ ?_
  all_goals rw [msg_nm]
  all_goals simp only [bareZ, Msg.zero, encT, List.map_nil, List.append_nil, nmLL, true_and, and_true]
  all_goals simp only [encT] at h2
  all_goals first | exact h5 | exact ⟨h1, h2, h5⟩ | exact ⟨h3, h5⟩ | exact ⟨h4, h5⟩

theorem bool_eq_dec (b : Bool) : decide (b = true) = b := by cases b <;> rfl
set_option maxHeartbeats 2000000 in
theorem cm_bare (m : Msg) (fv : Bool) (hml : m.mods.length ≤ maxB) (hf : m.op = 3 → Pure prog 179 [filV m.filter m.filX] (.bool fv)) :
    Pure prog 43 [.agg m.enc] (.tup [.agg (bareM m).enc, .bool (bareOk fv m)]) := by
  refine Pure.outA (fun n h => by
    simp only [nmL, and_true] at h
    simp only [nm, nmL, and_true]
    have := bare_nm n m h
    simpa only [nm] using this) fun S => acalls_of_vc lowm_bare (by simp) ?_
  unfold Bm_bare
  -- the variables
  refine vc_cut (fun fr T => fr 1 = .ptr S.n 0 ∧ fr 2 = .ptr (S.n + 1) 0 ∧ Ext S T ∧ T.n = S.n + 2 ∧ T.get S.n = some (.box 28 m.mv.enc) ∧ T.get (S.n + 1) = some (.box 28 MV.zero.enc)) ?_ ?_
  · simp -implicitDefEqProofs only [go_sem, reduceIte, Nat.reduceEqDiff, Nat.reduceAdd, Nat.reduceLeDiff, Nat.reduceLT, decide_true, decide_false, vc_cond2, vcGrps_guard2, vcD_val2, vcD_guard2]
    exact ((Ext.refl S).push _).push _
  rintro fr T ⟨f1, f2, hE, hn, g0, g1⟩
  refine vc_cut (fun fr T => fr 1 = .ptr S.n 0 ∧ fr 2 = .ptr (S.n + 1) 0 ∧ fr 4 = .ptr (S.n + 2) 0 ∧ Ext S T ∧ T.n = S.n + 3 ∧ T.get S.n = some (.box 28 m.mv.enc) ∧ T.get (S.n + 1) = some (.box 28 MV.zero.enc) ∧
    T.get (S.n + 2) = some (.box 28 (((MV.zero.s0 m.id).s1 m.op).s27 (ctlV m.controls m.ctlX)).enc)) ?_ ?_
  · simp -implicitDefEqProofs only [f1, f2, hn, g0, g1, Nat.reduceEqDiff, go_sem, reduceIte, Nat.reduceEqDiff, Nat.reduceAdd, Nat.reduceLeDiff, Nat.reduceLT, decide_true, decide_false, vc_cond2, vcGrps_guard2, vcD_val2, vcD_guard2]
    refine (hE.push _).set _ _ (by omega)
  clear hE hn g0 g1 f1 f2 fr T
  rintro fr T ⟨f1, f2, f4, hE, hn, g0, g1, g2⟩
  refine vc_cut (fun fr T => fr 1 = .ptr S.n 0 ∧ fr 2 = .ptr (S.n + 1) 0 ∧ fr 4 = .ptr (S.n + 2) 0 ∧ fr 5 = .bool true ∧ Ext S T ∧ T.n = S.n + 3 ∧ T.get S.n = some (.box 28 m.mv.enc) ∧ T.get (S.n + 1) = some (.box 28 MV.zero.enc) ∧
    T.get (S.n + 2) = some (.box 28 (((MV.zero.s0 m.id).s1 m.op).s27 (ctlV m.controls m.ctlX)).enc)) ?_ ?_
  · simp -implicitDefEqProofs only [f1, f2, f4, hn, g0, g1, g2, Nat.reduceEqDiff, go_sem, reduceIte, Nat.reduceEqDiff, Nat.reduceAdd, Nat.reduceLeDiff, Nat.reduceLT, decide_true, decide_false, vc_cond2, vcGrps_guard2, vcD_val2, vcD_guard2]
    exact hE
  clear hE hn g0 g1 g2 f1 f2 f4 fr T
  rintro fr T ⟨f1, f2, f4, f5, hE, hn, g0, g1, g2⟩
  refine vc_cut (fun fr T => fr 2 = .ptr (S.n + 1) 0 ∧ fr 4 = .ptr (S.n + 2) 0 ∧ fr 5 = .bool (bareOk fv m) ∧ Ext S T ∧ T.get (S.n + 1) = some (.box 28 MV.zero.enc) ∧
    ∃ v : MV, T.get (S.n + 2) = some (.box 28 v.enc) ∧ Wk (.agg v.enc) (.agg (bareM m).mv.enc)) ?_ ?_
  rotate_left
  · clear hE hn g0 g1 g2 f1 f2 f4 f5 fr T
    rintro fr T ⟨f2, f4, f5, hE, g1, v, g2, hw⟩
    simp -implicitDefEqProofs only [f2, f4, f5, g1, g2, go_sem, reduceIte, Nat.reduceEqDiff, Nat.reduceAdd, Nat.reduceLeDiff, Nat.reduceLT, decide_true, decide_false, vc_cond2, vcGrps_guard2, vcD_val2, vcD_guard2]
    exact ⟨hE.set _ _ (by omega), .inl ⟨_, rfl, Wk.tup (.cons hw (WkL.refl _))⟩⟩
  have wz : ∀ (v u : MV), nilOr 7 v.filter u.filter → nilOr 1 v.select u.select → nilOr 3 v.mods u.mods → nilOr 2 v.attrs u.attrs → nilOr 4 v.controls u.controls → u = { v with filter := u.filter, select := u.select, mods := u.mods, attrs := u.attrs, controls := u.controls } → Wk (.agg v.enc) (.agg u.enc) := MV.wk
  have hE3 : ∀ o, Ext S (T.set (S.n + 2) o) := fun o => hE.set _ _ (by omega)
  have hX : ∀ (T' : Store) (o : Option AObj), Ext S T' → Ext S (T'.set (S.n + 2) o) := fun T' o h => h.set _ _ (by omega)
  by_cases h0 : m.op = 0
  · unfold bareM bareOk
    simp only [if_pos h0]
    simp -implicitDefEqProofs only [f1, f2, f4, f5, hn, g0, g1, g2, Nat.reduceEqDiff, eq_true h0, go_sem, reduceIte, Nat.reduceEqDiff, Nat.reduceAdd, Nat.reduceLeDiff, Nat.reduceLT, decide_true, decide_false, vc_cond2, vcGrps_guard2, vcD_val2, vcD_guard2]
    refine ⟨fun h1 => ?_, fun h1 => ?_⟩
    · have e1 : 1 ≤ m.version := h1
      simp -implicitDefEqProofs only [f1, f2, f4, f5, hn, g0, g1, g2, Nat.reduceEqDiff, eq_true h0, e1, true_and, go_sem, reduceIte, Nat.reduceEqDiff, Nat.reduceAdd, Nat.reduceLeDiff, Nat.reduceLT, decide_true, decide_false, vc_cond2, vcGrps_guard2, vcD_val2, vcD_guard2]
      first | exact ⟨(hX _ _ (hX _ _ (hX _ _ (hX _ _ hE)))), _, rfl, wz _ _ (nil_nil 7) (nil_nil 1) (nil_nil 3) (nil_nil 2) (.inl rfl) rfl⟩ | exact ⟨rfl, (hX _ _ (hX _ _ (hX _ _ (hX _ _ hE)))), _, rfl, wz _ _ (nil_nil 7) (nil_nil 1) (nil_nil 3) (nil_nil 2) (.inl rfl) rfl⟩
    · have e1 : ¬ 1 ≤ m.version := h1
      simp -implicitDefEqProofs only [f1, f2, f4, f5, hn, g0, g1, g2, Nat.reduceEqDiff, eq_true h0, e1, false_and, decide_false, go_sem, reduceIte, Nat.reduceEqDiff, Nat.reduceAdd, Nat.reduceLeDiff, Nat.reduceLT, decide_true, decide_false, vc_cond2, vcGrps_guard2, vcD_val2, vcD_guard2]
      first | exact ⟨(hX _ _ (hX _ _ (hX _ _ (hX _ _ hE)))), _, rfl, wz _ _ (nil_nil 7) (nil_nil 1) (nil_nil 3) (nil_nil 2) (.inl rfl) rfl⟩ | exact ⟨rfl, (hX _ _ (hX _ _ (hX _ _ (hX _ _ hE)))), _, rfl, wz _ _ (nil_nil 7) (nil_nil 1) (nil_nil 3) (nil_nil 2) (.inl rfl) rfl⟩
  by_cases h2 : m.op = 2
  · unfold bareM bareOk
    simp only [if_neg h0, if_pos h2]
    simp -implicitDefEqProofs only [f1, f2, f4, f5, hn, g0, g1, g2, Nat.reduceEqDiff, eq_false h0, eq_true h2, go_sem, reduceIte, Nat.reduceEqDiff, Nat.reduceAdd, Nat.reduceLeDiff, Nat.reduceLT, decide_true, decide_false, vc_cond2, vcGrps_guard2, vcD_val2, vcD_guard2]
    first | exact ⟨hE, _, rfl, wz _ _ (nil_nil 7) (nil_nil 1) (nil_nil 3) (nil_nil 2) (.inl rfl) rfl⟩ | exact ⟨rfl, hE, _, rfl, wz _ _ (nil_nil 7) (nil_nil 1) (nil_nil 3) (nil_nil 2) (.inl rfl) rfl⟩
  by_cases h3 : m.op = 3
  · unfold bareM bareOk
    simp only [if_neg h0, if_neg h2, if_pos h3]
    simp -implicitDefEqProofs only [f1, f2, f4, f5, hn, g0, g1, g2, Nat.reduceEqDiff, eq_false h0, eq_false h2, eq_true h3, go_sem, reduceIte, Nat.reduceEqDiff, Nat.reduceAdd, Nat.reduceLeDiff, Nat.reduceLT, decide_true, decide_false, vc_cond2, vcGrps_guard2, vcD_val2, vcD_guard2]
    refine (cm_inRange m.scope 2).use ?_
    by_cases qscope : 0 ≤ m.scope ∧ m.scope ≤ 2
    · simp -implicitDefEqProofs only [f1, f2, f4, f5, hn, g0, g1, g2, Nat.reduceEqDiff, eq_false h0, eq_false h2, eq_true h3, inR, maxN, qscope, decide_true, decide_false, Bool.true_and, Bool.false_and, Bool.true_or, Bool.false_or, go_sem, reduceIte, Nat.reduceEqDiff, Nat.reduceAdd, Nat.reduceLeDiff, Nat.reduceLT, decide_true, decide_false, vc_cond2, vcGrps_guard2, vcD_val2, vcD_guard2]
      refine (cm_inRange m.deref 3).use ?_
      by_cases qderef : 0 ≤ m.deref ∧ m.deref ≤ 3
      · simp -implicitDefEqProofs only [f1, f2, f4, f5, hn, g0, g1, g2, Nat.reduceEqDiff, eq_false h0, eq_false h2, eq_true h3, qscope, inR, maxN, qderef, decide_true, decide_false, Bool.true_and, Bool.false_and, Bool.true_or, Bool.false_or, go_sem, reduceIte, Nat.reduceEqDiff, Nat.reduceAdd, Nat.reduceLeDiff, Nat.reduceLT, decide_true, decide_false, vc_cond2, vcGrps_guard2, vcD_val2, vcD_guard2]
        refine (cm_inRange m.size 2147483647).use ?_
        by_cases qsize : 0 ≤ m.size ∧ m.size ≤ 2147483647
        · simp -implicitDefEqProofs only [f1, f2, f4, f5, hn, g0, g1, g2, Nat.reduceEqDiff, eq_false h0, eq_false h2, eq_true h3, qscope, qderef, inR, maxN, qsize, decide_true, decide_false, Bool.true_and, Bool.false_and, Bool.true_or, Bool.false_or, go_sem, reduceIte, Nat.reduceEqDiff, Nat.reduceAdd, Nat.reduceLeDiff, Nat.reduceLT, decide_true, decide_false, vc_cond2, vcGrps_guard2, vcD_val2, vcD_guard2]
          refine (cm_inRange m.time 2147483647).use ?_
          by_cases qtime : 0 ≤ m.time ∧ m.time ≤ 2147483647
          · simp -implicitDefEqProofs only [f1, f2, f4, f5, hn, g0, g1, g2, Nat.reduceEqDiff, eq_false h0, eq_false h2, eq_true h3, qscope, qderef, qsize, inR, maxN, qtime, decide_true, decide_false, Bool.true_and, Bool.false_and, Bool.true_or, Bool.false_or, go_sem, reduceIte, Nat.reduceEqDiff, Nat.reduceAdd, Nat.reduceLeDiff, Nat.reduceLT, decide_true, decide_false, vc_cond2, vcGrps_guard2, vcD_val2, vcD_guard2]
            refine (hf h3).use ?_
            simp -implicitDefEqProofs only [f1, f2, f4, f5, hn, g0, g1, g2, Nat.reduceEqDiff, eq_false h0, eq_false h2, eq_true h3, qscope, qderef, qsize, qtime, inR, maxN, decide_true, decide_false, Bool.true_and, Bool.false_and, Bool.true_or, Bool.false_or, go_sem, reduceIte, Nat.reduceEqDiff, Nat.reduceAdd, Nat.reduceLeDiff, Nat.reduceLT, decide_true, decide_false, vc_cond2, vcGrps_guard2, vcD_val2, vcD_guard2]
            first | exact ⟨(hX _ _ (hX _ _ (hX _ _ (hX _ _ (hX _ _ (hX _ _ (hX _ _ (hX _ _ hE)))))))), _, rfl, wz _ _ (.inl rfl) (.inl rfl) (nil_nil 3) (nil_nil 2) (.inl rfl) rfl⟩ | exact ⟨rfl, (hX _ _ (hX _ _ (hX _ _ (hX _ _ (hX _ _ (hX _ _ (hX _ _ (hX _ _ hE)))))))), _, rfl, wz _ _ (.inl rfl) (.inl rfl) (nil_nil 3) (nil_nil 2) (.inl rfl) rfl⟩
          · simp -implicitDefEqProofs only [f1, f2, f4, f5, hn, g0, g1, g2, Nat.reduceEqDiff, eq_false h0, eq_false h2, eq_true h3, qscope, qderef, qsize, inR, maxN, qtime, decide_true, decide_false, Bool.true_and, Bool.false_and, Bool.true_or, Bool.false_or, go_sem, reduceIte, Nat.reduceEqDiff, Nat.reduceAdd, Nat.reduceLeDiff, Nat.reduceLT, decide_true, decide_false, vc_cond2, vcGrps_guard2, vcD_val2, vcD_guard2]
            first | exact ⟨(hX _ _ (hX _ _ (hX _ _ (hX _ _ (hX _ _ (hX _ _ (hX _ _ (hX _ _ hE)))))))), _, rfl, wz _ _ (.inl rfl) (.inl rfl) (nil_nil 3) (nil_nil 2) (.inl rfl) rfl⟩ | exact ⟨rfl, (hX _ _ (hX _ _ (hX _ _ (hX _ _ (hX _ _ (hX _ _ (hX _ _ (hX _ _ hE)))))))), _, rfl, wz _ _ (.inl rfl) (.inl rfl) (nil_nil 3) (nil_nil 2) (.inl rfl) rfl⟩
        · simp -implicitDefEqProofs only [f1, f2, f4, f5, hn, g0, g1, g2, Nat.reduceEqDiff, eq_false h0, eq_false h2, eq_true h3, qscope, qderef, inR, maxN, qsize, decide_true, decide_false, Bool.true_and, Bool.false_and, Bool.true_or, Bool.false_or, go_sem, reduceIte, Nat.reduceEqDiff, Nat.reduceAdd, Nat.reduceLeDiff, Nat.reduceLT, decide_true, decide_false, vc_cond2, vcGrps_guard2, vcD_val2, vcD_guard2]
          first | exact ⟨(hX _ _ (hX _ _ (hX _ _ (hX _ _ (hX _ _ (hX _ _ (hX _ _ (hX _ _ hE)))))))), _, rfl, wz _ _ (.inl rfl) (.inl rfl) (nil_nil 3) (nil_nil 2) (.inl rfl) rfl⟩ | exact ⟨rfl, (hX _ _ (hX _ _ (hX _ _ (hX _ _ (hX _ _ (hX _ _ (hX _ _ (hX _ _ hE)))))))), _, rfl, wz _ _ (.inl rfl) (.inl rfl) (nil_nil 3) (nil_nil 2) (.inl rfl) rfl⟩
      · simp -implicitDefEqProofs only [f1, f2, f4, f5, hn, g0, g1, g2, Nat.reduceEqDiff, eq_false h0, eq_false h2, eq_true h3, qscope, inR, maxN, qderef, decide_true, decide_false, Bool.true_and, Bool.false_and, Bool.true_or, Bool.false_or, go_sem, reduceIte, Nat.reduceEqDiff, Nat.reduceAdd, Nat.reduceLeDiff, Nat.reduceLT, decide_true, decide_false, vc_cond2, vcGrps_guard2, vcD_val2, vcD_guard2]
        first | exact ⟨(hX _ _ (hX _ _ (hX _ _ (hX _ _ (hX _ _ (hX _ _ (hX _ _ (hX _ _ hE)))))))), _, rfl, wz _ _ (.inl rfl) (.inl rfl) (nil_nil 3) (nil_nil 2) (.inl rfl) rfl⟩ | exact ⟨rfl, (hX _ _ (hX _ _ (hX _ _ (hX _ _ (hX _ _ (hX _ _ (hX _ _ (hX _ _ hE)))))))), _, rfl, wz _ _ (.inl rfl) (.inl rfl) (nil_nil 3) (nil_nil 2) (.inl rfl) rfl⟩
    · simp -implicitDefEqProofs only [f1, f2, f4, f5, hn, g0, g1, g2, Nat.reduceEqDiff, eq_false h0, eq_false h2, eq_true h3, inR, maxN, qscope, decide_true, decide_false, Bool.true_and, Bool.false_and, Bool.true_or, Bool.false_or, go_sem, reduceIte, Nat.reduceEqDiff, Nat.reduceAdd, Nat.reduceLeDiff, Nat.reduceLT, decide_true, decide_false, vc_cond2, vcGrps_guard2, vcD_val2, vcD_guard2]
      first | exact ⟨(hX _ _ (hX _ _ (hX _ _ (hX _ _ (hX _ _ (hX _ _ (hX _ _ (hX _ _ hE)))))))), _, rfl, wz _ _ (.inl rfl) (.inl rfl) (nil_nil 3) (nil_nil 2) (.inl rfl) rfl⟩ | exact ⟨rfl, (hX _ _ (hX _ _ (hX _ _ (hX _ _ (hX _ _ (hX _ _ (hX _ _ (hX _ _ hE)))))))), _, rfl, wz _ _ (.inl rfl) (.inl rfl) (nil_nil 3) (nil_nil 2) (.inl rfl) rfl⟩
  by_cases h6 : m.op = 6
  · unfold bareM bareOk
    simp only [if_neg h0, if_neg h2, if_neg h3, if_pos h6]
    simp -implicitDefEqProofs only [f1, f2, f4, f5, hn, g0, g1, g2, Nat.reduceEqDiff, eq_false h0, eq_false h2, eq_false h3, eq_true h6, go_sem, reduceIte, Nat.reduceEqDiff, Nat.reduceAdd, Nat.reduceLeDiff, Nat.reduceLT, decide_true, decide_false, vc_cond2, vcGrps_guard2, vcD_val2, vcD_guard2]
    refine (cs_containsFM m.mods m.modX _ (fun c => !inR c.op 2) hml (by kernel_rfl) (fun c _ => cm_bare1 c)).use ?_
    simp -implicitDefEqProofs only [f1, f2, f4, f5, hn, g0, g1, g2, Nat.reduceEqDiff, eq_false h0, eq_false h2, eq_false h3, eq_true h6, go_sem, reduceIte, Nat.reduceEqDiff, Nat.reduceAdd, Nat.reduceLeDiff, Nat.reduceLT, decide_true, decide_false, vc_cond2, vcGrps_guard2, vcD_val2, vcD_guard2]
    first | exact ⟨(hX _ _ (hX _ _ hE)), _, rfl, wz _ _ (nil_nil 7) (nil_nil 1) (.inl rfl) (nil_nil 2) (.inl rfl) rfl⟩ | exact ⟨rfl, (hX _ _ (hX _ _ hE)), _, rfl, wz _ _ (nil_nil 7) (nil_nil 1) (.inl rfl) (nil_nil 2) (.inl rfl) rfl⟩
  by_cases hAE : m.op ∈ [8, 4]
  · unfold bareM bareOk
    simp only [if_neg h0, if_neg h2, if_neg h3, if_neg h6, if_pos hAE]
    simp -implicitDefEqProofs only [f1, f2, f4, f5, hn, g0, g1, g2, Nat.reduceEqDiff, eq_false h0, eq_false h2, eq_false h3, eq_false h6, go_sem, reduceIte, Nat.reduceEqDiff, Nat.reduceAdd, Nat.reduceLeDiff, Nat.reduceLT, decide_true, decide_false, vc_cond2, vcGrps_guard2, vcD_val2, vcD_guard2]
    refine (cm_isOp [8, 4] m.op (by decide)).use ?_
    simp -implicitDefEqProofs only [f1, f2, f4, f5, hn, g0, g1, g2, Nat.reduceEqDiff, eq_false h0, eq_false h2, eq_false h3, eq_false h6, eq_true hAE, decide_true, go_sem, reduceIte, Nat.reduceEqDiff, Nat.reduceAdd, Nat.reduceLeDiff, Nat.reduceLT, decide_true, decide_false, vc_cond2, vcGrps_guard2, vcD_val2, vcD_guard2]
    first | exact ⟨(hX _ _ (hX _ _ hE)), _, rfl, wz _ _ (nil_nil 7) (nil_nil 1) (nil_nil 3) (.inl rfl) (.inl rfl) rfl⟩ | exact ⟨rfl, (hX _ _ (hX _ _ hE)), _, rfl, wz _ _ (nil_nil 7) (nil_nil 1) (nil_nil 3) (.inl rfl) (.inl rfl) rfl⟩
  by_cases h10 : m.op = 10
  · unfold bareM bareOk
    simp only [if_neg h0, if_neg h2, if_neg h3, if_neg h6, if_neg hAE, if_pos h10]
    simp -implicitDefEqProofs only [f1, f2, f4, f5, hn, g0, g1, g2, Nat.reduceEqDiff, eq_false h0, eq_false h2, eq_false h3, eq_false h6, eq_true h10, go_sem, reduceIte, Nat.reduceEqDiff, Nat.reduceAdd, Nat.reduceLeDiff, Nat.reduceLT, decide_true, decide_false, vc_cond2, vcGrps_guard2, vcD_val2, vcD_guard2]
    refine (cm_isOp [8, 4] m.op (by decide)).use ?_
    simp -implicitDefEqProofs only [f1, f2, f4, f5, hn, g0, g1, g2, Nat.reduceEqDiff, eq_false h0, eq_false h2, eq_false h3, eq_false h6, eq_true h10, eq_false hAE, decide_false, go_sem, reduceIte, Nat.reduceEqDiff, Nat.reduceAdd, Nat.reduceLeDiff, Nat.reduceLT, decide_true, decide_false, vc_cond2, vcGrps_guard2, vcD_val2, vcD_guard2]
    first | exact ⟨(hX _ _ hE), _, rfl, wz _ _ (nil_nil 7) (nil_nil 1) (nil_nil 3) (nil_nil 2) (.inl rfl) rfl⟩ | exact ⟨rfl, (hX _ _ hE), _, rfl, wz _ _ (nil_nil 7) (nil_nil 1) (nil_nil 3) (nil_nil 2) (.inl rfl) rfl⟩
  by_cases h12 : m.op = 12
  · unfold bareM bareOk
    simp only [if_neg h0, if_neg h2, if_neg h3, if_neg h6, if_neg hAE, if_neg h10, if_pos h12]
    simp -implicitDefEqProofs only [f1, f2, f4, f5, hn, g0, g1, g2, Nat.reduceEqDiff, eq_false h0, eq_false h2, eq_false h3, eq_false h6, eq_false h10, eq_true h12, go_sem, reduceIte, Nat.reduceEqDiff, Nat.reduceAdd, Nat.reduceLeDiff, Nat.reduceLT, decide_true, decide_false, vc_cond2, vcGrps_guard2, vcD_val2, vcD_guard2]
    refine (cm_isOp [8, 4] m.op (by decide)).use ?_
    cases hb : m.hasSup <;> simp -implicitDefEqProofs only [f1, f2, f4, f5, hn, g0, g1, g2, Nat.reduceEqDiff, eq_false h0, eq_false h2, eq_false h3, eq_false h6, eq_false h10, eq_true h12, eq_false hAE, decide_false, hb, Bool.true_or, Bool.false_or, go_sem, reduceIte, Nat.reduceEqDiff, Nat.reduceAdd, Nat.reduceLeDiff, Nat.reduceLT, decide_true, decide_false, vc_cond2, vcGrps_guard2, vcD_val2, vcD_guard2]
    · first | exact ⟨(hX _ _ (hX _ _ (hX _ _ (hX _ _ (hX _ _ hE))))), _, rfl, wz _ _ (nil_nil 7) (nil_nil 1) (nil_nil 3) (nil_nil 2) (.inl rfl) rfl⟩ | exact ⟨rfl, (hX _ _ (hX _ _ (hX _ _ (hX _ _ (hX _ _ hE))))), _, rfl, wz _ _ (nil_nil 7) (nil_nil 1) (nil_nil 3) (nil_nil 2) (.inl rfl) rfl⟩
    · first | exact ⟨(hX _ _ (hX _ _ (hX _ _ (hX _ _ (hX _ _ hE))))), _, rfl, wz _ _ (nil_nil 7) (nil_nil 1) (nil_nil 3) (nil_nil 2) (.inl rfl) rfl⟩ | exact ⟨rfl, (hX _ _ (hX _ _ (hX _ _ (hX _ _ (hX _ _ hE))))), _, rfl, wz _ _ (nil_nil 7) (nil_nil 1) (nil_nil 3) (nil_nil 2) (.inl rfl) rfl⟩
  by_cases h14 : m.op = 14
  · unfold bareM bareOk
    simp only [if_neg h0, if_neg h2, if_neg h3, if_neg h6, if_neg hAE, if_neg h10, if_neg h12, if_pos h14]
    simp -implicitDefEqProofs only [f1, f2, f4, f5, hn, g0, g1, g2, Nat.reduceEqDiff, eq_false h0, eq_false h2, eq_false h3, eq_false h6, eq_false h10, eq_false h12, eq_true h14, go_sem, reduceIte, Nat.reduceEqDiff, Nat.reduceAdd, Nat.reduceLeDiff, Nat.reduceLT, decide_true, decide_false, vc_cond2, vcGrps_guard2, vcD_val2, vcD_guard2]
    refine (cm_isOp [8, 4] m.op (by decide)).use ?_
    simp -implicitDefEqProofs only [f1, f2, f4, f5, hn, g0, g1, g2, Nat.reduceEqDiff, eq_false h0, eq_false h2, eq_false h3, eq_false h6, eq_false h10, eq_false h12, eq_true h14, eq_false hAE, decide_false, go_sem, reduceIte, Nat.reduceEqDiff, Nat.reduceAdd, Nat.reduceLeDiff, Nat.reduceLT, decide_true, decide_false, vc_cond2, vcGrps_guard2, vcD_val2, vcD_guard2]
    first | exact ⟨(hX _ _ (hX _ _ (hX _ _ hE))), _, rfl, wz _ _ (nil_nil 7) (nil_nil 1) (nil_nil 3) (nil_nil 2) (.inl rfl) rfl⟩ | exact ⟨rfl, (hX _ _ (hX _ _ (hX _ _ hE))), _, rfl, wz _ _ (nil_nil 7) (nil_nil 1) (nil_nil 3) (nil_nil 2) (.inl rfl) rfl⟩
  by_cases h16 : m.op = 16
  · unfold bareM bareOk
    simp only [if_neg h0, if_neg h2, if_neg h3, if_neg h6, if_neg hAE, if_neg h10, if_neg h12, if_neg h14, if_pos h16]
    simp -implicitDefEqProofs only [f1, f2, f4, f5, hn, g0, g1, g2, Nat.reduceEqDiff, eq_false h0, eq_false h2, eq_false h3, eq_false h6, eq_false h10, eq_false h12, eq_false h14, eq_true h16, go_sem, reduceIte, Nat.reduceEqDiff, Nat.reduceAdd, Nat.reduceLeDiff, Nat.reduceLT, decide_true, decide_false, vc_cond2, vcGrps_guard2, vcD_val2, vcD_guard2]
    refine (cm_isOp [8, 4] m.op (by decide)).use ?_
    simp -implicitDefEqProofs only [f1, f2, f4, f5, hn, g0, g1, g2, Nat.reduceEqDiff, eq_false h0, eq_false h2, eq_false h3, eq_false h6, eq_false h10, eq_false h12, eq_false h14, eq_true h16, eq_false hAE, decide_false, go_sem, reduceIte, Nat.reduceEqDiff, Nat.reduceAdd, Nat.reduceLeDiff, Nat.reduceLT, decide_true, decide_false, vc_cond2, vcGrps_guard2, vcD_val2, vcD_guard2]
    refine (cm_inRange m.target 2147483647).use ?_
    simp -implicitDefEqProofs only [f1, f2, f4, f5, hn, g0, g1, g2, Nat.reduceEqDiff, eq_false h0, eq_false h2, eq_false h3, eq_false h6, eq_false h10, eq_false h12, eq_false h14, eq_true h16, eq_false hAE, decide_false, inR, maxN, decide_true, decide_false, Bool.true_and, Bool.false_and, Bool.true_or, Bool.false_or, go_sem, reduceIte, Nat.reduceEqDiff, Nat.reduceAdd, Nat.reduceLeDiff, Nat.reduceLT, decide_true, decide_false, vc_cond2, vcGrps_guard2, vcD_val2, vcD_guard2]
    first | exact ⟨(hX _ _ hE), _, rfl, wz _ _ (nil_nil 7) (nil_nil 1) (nil_nil 3) (nil_nil 2) (.inl rfl) rfl⟩ | exact ⟨rfl, (hX _ _ hE), _, rfl, wz _ _ (nil_nil 7) (nil_nil 1) (nil_nil 3) (nil_nil 2) (.inl rfl) rfl⟩
  by_cases h23 : m.op = 23
  · unfold bareM bareOk
    simp only [if_neg h0, if_neg h2, if_neg h3, if_neg h6, if_neg hAE, if_neg h10, if_neg h12, if_neg h14, if_neg h16, if_pos h23]
    simp -implicitDefEqProofs only [f1, f2, f4, f5, hn, g0, g1, g2, Nat.reduceEqDiff, eq_false h0, eq_false h2, eq_false h3, eq_false h6, eq_false h10, eq_false h12, eq_false h14, eq_false h16, eq_true h23, go_sem, reduceIte, Nat.reduceEqDiff, Nat.reduceAdd, Nat.reduceLeDiff, Nat.reduceLT, decide_true, decide_false, vc_cond2, vcGrps_guard2, vcD_val2, vcD_guard2]
    refine (cm_isOp [8, 4] m.op (by decide)).use ?_
    cases hb : m.has <;> simp -implicitDefEqProofs only [f1, f2, f4, f5, hn, g0, g1, g2, Nat.reduceEqDiff, eq_false h0, eq_false h2, eq_false h3, eq_false h6, eq_false h10, eq_false h12, eq_false h14, eq_false h16, eq_true h23, eq_false hAE, decide_false, hb, Bool.true_or, Bool.false_or, go_sem, reduceIte, Nat.reduceEqDiff, Nat.reduceAdd, Nat.reduceLeDiff, Nat.reduceLT, decide_true, decide_false, vc_cond2, vcGrps_guard2, vcD_val2, vcD_guard2]
    · first | exact ⟨(hX _ _ (hX _ _ (hX _ _ hE))), _, rfl, wz _ _ (nil_nil 7) (nil_nil 1) (nil_nil 3) (nil_nil 2) (.inl rfl) rfl⟩ | exact ⟨rfl, (hX _ _ (hX _ _ (hX _ _ hE))), _, rfl, wz _ _ (nil_nil 7) (nil_nil 1) (nil_nil 3) (nil_nil 2) (.inl rfl) rfl⟩
    · first | exact ⟨(hX _ _ (hX _ _ (hX _ _ hE))), _, rfl, wz _ _ (nil_nil 7) (nil_nil 1) (nil_nil 3) (nil_nil 2) (.inl rfl) rfl⟩ | exact ⟨rfl, (hX _ _ (hX _ _ (hX _ _ hE))), _, rfl, wz _ _ (nil_nil 7) (nil_nil 1) (nil_nil 3) (nil_nil 2) (.inl rfl) rfl⟩
  unfold bareM bareOk
  simp only [if_neg h0, if_neg h2, if_neg h3, if_neg h6, if_neg hAE, if_neg h10, if_neg h12, if_neg h14, if_neg h16, if_neg h23]
  simp -implicitDefEqProofs only [f1, f2, f4, f5, hn, g0, g1, g2, Nat.reduceEqDiff, eq_false h0, eq_false h2, eq_false h3, eq_false h6, eq_false h10, eq_false h12, eq_false h14, eq_false h16, eq_false h23, go_sem, reduceIte, Nat.reduceEqDiff, Nat.reduceAdd, Nat.reduceLeDiff, Nat.reduceLT, decide_true, decide_false, vc_cond2, vcGrps_guard2, vcD_val2, vcD_guard2]
  refine (cm_isOp [8, 4] m.op (by decide)).use ?_
  simp -implicitDefEqProofs only [f1, f2, f4, f5, hn, g0, g1, g2, Nat.reduceEqDiff, eq_false h0, eq_false h2, eq_false h3, eq_false h6, eq_false h10, eq_false h12, eq_false h14, eq_false h16, eq_false h23, eq_false hAE, decide_false, go_sem, reduceIte, Nat.reduceEqDiff, Nat.reduceAdd, Nat.reduceLeDiff, Nat.reduceLT, decide_true, decide_false, vc_cond2, vcGrps_guard2, vcD_val2, vcD_guard2]
  refine (cm_isResult m.op).use ?_
  by_cases hR : isRes m.op = true
  · simp only [if_pos hR]
    simp -implicitDefEqProofs only [f1, f2, f4, f5, hn, g0, g1, g2, Nat.reduceEqDiff, eq_false h0, eq_false h2, eq_false h3, eq_false h6, eq_false h10, eq_false h12, eq_false h14, eq_false h16, eq_false h23, eq_false hAE, decide_false, hR, go_sem, reduceIte, Nat.reduceEqDiff, Nat.reduceAdd, Nat.reduceLeDiff, Nat.reduceLT, decide_true, decide_false, vc_cond2, vcGrps_guard2, vcD_val2, vcD_guard2]
    refine (cm_inRange m.code 2147483647).use ?_
    by_cases h24 : m.op = 24
    · simp only [if_pos h24]
      by_cases qc : 0 ≤ m.code ∧ m.code ≤ 2147483647
      · cases hb : m.has <;> simp -implicitDefEqProofs only [f1, f2, f4, f5, hn, g0, g1, g2, Nat.reduceEqDiff, eq_false h0, eq_false h2, eq_false h3, eq_false h6, eq_false h10, eq_false h12, eq_false h14, eq_false h16, eq_false h23, eq_false hAE, decide_false, hR, eq_true h24, hb, qc, inR, maxN, Bool.not_true, Bool.not_false, decide_true, decide_false, Bool.true_and, Bool.false_and, Bool.true_or, Bool.false_or, go_sem, reduceIte, Nat.reduceEqDiff, Nat.reduceAdd, Nat.reduceLeDiff, Nat.reduceLT, decide_true, decide_false, vc_cond2, vcGrps_guard2, vcD_val2, vcD_guard2]
        · first | exact ⟨(hX _ _ (hX _ _ (hX _ _ (hX _ _ (hX _ _ (hX _ _ hE)))))), _, rfl, wz _ _ (nil_nil 7) (nil_nil 1) (nil_nil 3) (nil_nil 2) (.inl rfl) rfl⟩ | exact ⟨rfl, (hX _ _ (hX _ _ (hX _ _ (hX _ _ (hX _ _ (hX _ _ hE)))))), _, rfl, wz _ _ (nil_nil 7) (nil_nil 1) (nil_nil 3) (nil_nil 2) (.inl rfl) rfl⟩
        · first | exact ⟨(hX _ _ (hX _ _ (hX _ _ (hX _ _ (hX _ _ (hX _ _ hE)))))), _, rfl, wz _ _ (nil_nil 7) (nil_nil 1) (nil_nil 3) (nil_nil 2) (.inl rfl) rfl⟩ | exact ⟨rfl, (hX _ _ (hX _ _ (hX _ _ (hX _ _ (hX _ _ (hX _ _ hE)))))), _, rfl, wz _ _ (nil_nil 7) (nil_nil 1) (nil_nil 3) (nil_nil 2) (.inl rfl) rfl⟩
      · simp -implicitDefEqProofs only [f1, f2, f4, f5, hn, g0, g1, g2, Nat.reduceEqDiff, eq_false h0, eq_false h2, eq_false h3, eq_false h6, eq_false h10, eq_false h12, eq_false h14, eq_false h16, eq_false h23, eq_false hAE, decide_false, hR, eq_true h24, qc, inR, maxN, decide_true, decide_false, Bool.true_and, Bool.false_and, Bool.true_or, Bool.false_or, go_sem, reduceIte, Nat.reduceEqDiff, Nat.reduceAdd, Nat.reduceLeDiff, Nat.reduceLT, decide_true, decide_false, vc_cond2, vcGrps_guard2, vcD_val2, vcD_guard2]
        first | exact ⟨(hX _ _ (hX _ _ (hX _ _ (hX _ _ (hX _ _ (hX _ _ hE)))))), _, rfl, wz _ _ (nil_nil 7) (nil_nil 1) (nil_nil 3) (nil_nil 2) (.inl rfl) rfl⟩ | exact ⟨rfl, (hX _ _ (hX _ _ (hX _ _ (hX _ _ (hX _ _ (hX _ _ hE)))))), _, rfl, wz _ _ (nil_nil 7) (nil_nil 1) (nil_nil 3) (nil_nil 2) (.inl rfl) rfl⟩
    · simp only [if_neg h24]
      simp -implicitDefEqProofs only [f1, f2, f4, f5, hn, g0, g1, g2, Nat.reduceEqDiff, eq_false h0, eq_false h2, eq_false h3, eq_false h6, eq_false h10, eq_false h12, eq_false h14, eq_false h16, eq_false h23, eq_false hAE, decide_false, hR, eq_false h24, inR, maxN, Bool.not_false, Bool.and_true, decide_true, decide_false, Bool.true_and, Bool.false_and, Bool.true_or, Bool.false_or, go_sem, reduceIte, Nat.reduceEqDiff, Nat.reduceAdd, Nat.reduceLeDiff, Nat.reduceLT, decide_true, decide_false, vc_cond2, vcGrps_guard2, vcD_val2, vcD_guard2]
      first | exact ⟨(hX _ _ (hX _ _ (hX _ _ hE))), _, rfl, wz _ _ (nil_nil 7) (nil_nil 1) (nil_nil 3) (nil_nil 2) (.inl rfl) rfl⟩ | exact ⟨rfl, (hX _ _ (hX _ _ (hX _ _ hE))), _, rfl, wz _ _ (nil_nil 7) (nil_nil 1) (nil_nil 3) (nil_nil 2) (.inl rfl) rfl⟩
  · simp only [if_neg hR]
    have hR2 : isRes m.op = false := by simpa using hR
    simp -implicitDefEqProofs only [f1, f2, f4, f5, hn, g0, g1, g2, Nat.reduceEqDiff, eq_false h0, eq_false h2, eq_false h3, eq_false h6, eq_false h10, eq_false h12, eq_false h14, eq_false h16, eq_false h23, eq_false hAE, decide_false, hR2, go_sem, reduceIte, Nat.reduceEqDiff, Nat.reduceAdd, Nat.reduceLeDiff, Nat.reduceLT, decide_true, decide_false, vc_cond2, vcGrps_guard2, vcD_val2, vcD_guard2]
    first | exact ⟨hE, _, rfl, wz _ _ (nil_nil 7) (nil_nil 1) (nil_nil 3) (nil_nil 2) (.inl rfl) rfl⟩ | exact ⟨rfl, hE, _, rfl, wz _ _ (nil_nil 7) (nil_nil 1) (nil_nil 3) (nil_nil 2) (.inl rfl) rfl⟩
end Go.Proofs.YtajbeippbabhhaaGreatDoor.Eng

namespace Go.Proofs.YtajbeippbabhhaaGreatDoor.Eng
open Go Go.Proofs.Tryz

/-! ## What a message has but lists, and whether it is right -/
def plainL (v : MV) : List AV := [.ifc 3 (.int .i64 v.version), .ifc 9 (.str v.dn), .ifc 4 (.bool v.sasl), .ifc 9 (.str v.secret), .ifc 3 (.int .i64 v.scope), .ifc 3 (.int .i64 v.deref), .ifc 3 (.int .i64 v.size), .ifc 3 (.int .i64 v.time), .ifc 4 (.bool v.typesOnly),
  .ifc 192 (.agg [.str v.newRdn, .str v.newSup, .str v.typ]), .ifc 193 (.agg [.bool v.deleteOld, .bool v.hasSup]), .ifc 194 (.agg [.str v.value, .str v.oid]), .ifc 4 (.bool v.has), .ifc 3 (.int .i64 v.target), .ifc 3 (.int .i64 v.code), .ifc 194 (.agg [.str v.matched, .str v.text])]
def plainB (u v : MV) : Bool := decide (u.version = v.version) && (decide (u.dn = v.dn) && (decide (u.sasl = v.sasl) && (decide (u.secret = v.secret) && (decide (u.scope = v.scope) && (decide (u.deref = v.deref) && (decide (u.size = v.size) && (decide (u.time = v.time) && (decide (u.typesOnly = v.typesOnly) &&
  ((decide (u.newRdn = v.newRdn) && (decide (u.newSup = v.newSup) && (decide (u.typ = v.typ) && true))) && ((decide (u.deleteOld = v.deleteOld) && (decide (u.hasSup = v.hasSup) && true)) && ((decide (u.value = v.value) && (decide (u.oid = v.oid) && true)) && (decide (u.has = v.has) && (decide (u.target = v.target) && (decide (u.code = v.code) && ((decide (u.matched = v.matched) && (decide (u.text = v.text) && true)) && true)))))))))))))))

set_option maxRecDepth 20000 in
set_option maxHeartbeats 1000000 in
theorem cm_plain (v : MV) : Pure prog 45 [.agg v.enc] (.agg (plainL v)) := by
  refine Pure.outA (fun n _ => by simp only [nm, nmL, plainL, and_true]) fun S => acalls_of_vc lowm_plain (by simp) ?_
  simp -implicitDefEqProofs only [Bm_plain, go_sem, reduceIte, Nat.reduceEqDiff, Nat.reduceAdd, Nat.reduceLeDiff, Nat.reduceLT, decide_true, decide_false, vc_cond2, vcGrps_guard2, vcD_val2, vcD_guard2]
  exact ⟨((Ext.refl S).push _).push _ |>.set _ _ (by omega), .inl ⟨_, rfl, Wk.refl _⟩⟩

def lensB (x m : Msg) : Bool := decide (x.filter.length = m.filter.length) && (decide (x.select.length = m.select.length) && (decide (x.mods.length = m.mods.length) && decide (x.attrs.length = m.attrs.length)))
def validB (fv : Bool) (m : Msg) : Bool := bareOk fv m && (inR m.id maxN && (plainB (bareM m).mv m.mv && (lensB (bareM m) m && !m.controls.any ctlBad)))
theorem fil_take (l : List Fil) (x : List (List AV)) : (l.map Fil.enc ++ x).take l.length = l.map Fil.enc := map_take_app _ _ _
theorem encT_take (l : List Byt) (x : List (List AV)) : (encT l ++ x).take l.length = encT l := map_take_app _ _ _
theorem encT_len (l : List Byt) : (encT l).length = l.length := by simp [encT]

set_option maxRecDepth 20000 in
set_option maxHeartbeats 1000000 in
theorem cm_Valid (m : Msg) (fv : Bool) (hml : m.mods.length ≤ maxB) (hcl : m.controls.length ≤ maxB) (hf : m.op = 3 → Pure prog 179 [filV m.filter m.filX] (.bool fv)) :
    Pure prog 15 [.agg m.enc] (.bool (validB fv m)) := by
  refine Pure.of (fun _ _ => by simp only [nm]) fun S => acalls_of_vc lowm_Valid (by simp) ?_
  unfold Bm_Valid
  refine vc_cut (fun fr T => fr 1 = .ptr S.n 0 ∧ Ext S T ∧ T.n = S.n + 1 ∧ T.get S.n = some (.box 28 m.mv.enc)) ?_ ?_
  · simp -implicitDefEqProofs only [go_sem, reduceIte, Nat.reduceEqDiff, Nat.reduceAdd, Nat.reduceLeDiff, Nat.reduceLT, decide_true, decide_false, vc_cond2, vcGrps_guard2, vcD_val2, vcD_guard2]
    exact (Ext.refl S).push _
  rintro fr T ⟨f1, hE, hn, g0⟩
  refine vc_cut (fun fr T => fr 1 = .ptr S.n 0 ∧ fr 3 = .ptr (S.n + 1) 0 ∧ fr 4 = .bool (bareOk fv m) ∧ Ext S T ∧ T.get S.n = some (.box 28 m.mv.enc) ∧ T.get (S.n + 1) = some (.box 28 (bareM m).mv.enc)) ?_ ?_
  · simp -implicitDefEqProofs only [f1, hn, g0, go_sem, reduceIte, Nat.reduceEqDiff, Nat.reduceAdd, Nat.reduceLeDiff, Nat.reduceLT, decide_true, decide_false, vc_cond2, vcGrps_guard2, vcD_val2, vcD_guard2]
    refine (cm_bare m fv hml hf).use ?_
    simp -implicitDefEqProofs only [f1, hn, g0, go_sem, reduceIte, Nat.reduceEqDiff, Nat.reduceAdd, Nat.reduceLeDiff, Nat.reduceLT, decide_true, decide_false, vc_cond2, vcGrps_guard2, vcD_val2, vcD_guard2]
    exact (hE.push _).set _ _ (by omega)
  clear hE hn g0 f1 fr T
  rintro fr T ⟨f1, f3, f4, hE, g0, g1⟩
  generalize hx : bareM m = x at g1
  have hv : validB fv m = (bareOk fv m && (inR m.id maxN && (plainB x.mv m.mv && (lensB x m && !m.controls.any ctlBad)))) := by unfold validB; rw [hx]
  rw [hv]
  refine vc_cut (fun fr T => fr 1 = .ptr S.n 0 ∧ Ext S T ∧ T.get S.n = some (.box 28 m.mv.enc) ∧ (bareOk fv m && (inR m.id maxN && (plainB x.mv m.mv && lensB x m))) = true) ?_ ?_
  rotate_left
  · clear hE g0 g1 f1 f3 f4 fr T hx
    rintro fr T ⟨f1, hE, g0, hb⟩
    simp -implicitDefEqProofs only [f1, g0, go_sem, reduceIte, Nat.reduceEqDiff, Nat.reduceAdd, Nat.reduceLeDiff, Nat.reduceLT, decide_true, decide_false, vc_cond2, vcGrps_guard2, vcD_val2, vcD_guard2]
    refine (cs_containsFC m.controls m.ctlX _ ctlBad hcl (by kernel_rfl) (fun c _ => cm_Valid1 c)).use ?_
    simp -implicitDefEqProofs only [f1, g0, go_sem, reduceIte, Nat.reduceEqDiff, Nat.reduceAdd, Nat.reduceLeDiff, Nat.reduceLT, decide_true, decide_false, vc_cond2, vcGrps_guard2, vcD_val2, vcD_guard2]
    simp only [Bool.and_eq_true] at hb
    obtain ⟨h1, h2, h3, h4⟩ := hb
    refine ⟨by simp [h1, h2, h3, h4], hE⟩
  rw [vc_block]
  refine vc_cut (fun fr T => fr 1 = .ptr S.n 0 ∧ fr 3 = .ptr (S.n + 1) 0 ∧ fr 10 = .bool (!(bareOk fv m && (inR m.id maxN && plainB x.mv m.mv))) ∧ Ext S T ∧ T.get S.n = some (.box 28 m.mv.enc) ∧ T.get (S.n + 1) = some (.box 28 x.mv.enc)) ?_ ?_
  · cases hok : bareOk fv m with
    | false =>
      rw [hok] at f4
      simp -implicitDefEqProofs only [f1, f3, f4, g0, g1, Bool.false_and, go_sem, reduceIte, Nat.reduceEqDiff, Nat.reduceAdd, Nat.reduceLeDiff, Nat.reduceLT, decide_true, decide_false, vc_cond2, vcGrps_guard2, vcD_val2, vcD_guard2]
      exact hE
    | true =>
      rw [hok] at f4
      simp -implicitDefEqProofs only [f1, f3, f4, g0, g1, Bool.true_and, go_sem, reduceIte, Nat.reduceEqDiff, Nat.reduceAdd, Nat.reduceLeDiff, Nat.reduceLT, decide_true, decide_false, vc_cond2, vcGrps_guard2, vcD_val2, vcD_guard2]
      refine vcDO_by _ _ _ _ _ _ _ _ _ _ _ (cm_inRange m.id 2147483647) ?_
      by_cases hid : 0 ≤ m.id ∧ m.id ≤ 2147483647
      · simp -implicitDefEqProofs only [f1, f3, f4, g0, g1, hid, inR, maxN, decide_true, Bool.true_and, go_sem, reduceIte, Nat.reduceEqDiff, Nat.reduceAdd, Nat.reduceLeDiff, Nat.reduceLT, decide_true, decide_false, vc_cond2, vcGrps_guard2, vcD_val2, vcD_guard2]
        refine vcDO_by _ _ _ _ _ _ _ _ _ _ _ (cm_plain x.mv) ?_
        simp -implicitDefEqProofs only [f1, f3, f4, g0, g1, go_sem, reduceIte, Nat.reduceEqDiff, Nat.reduceAdd, Nat.reduceLeDiff, Nat.reduceLT, decide_true, decide_false, vc_cond2, vcGrps_guard2, vcD_val2, vcD_guard2]
        refine vcDO_by _ _ _ _ _ _ _ _ _ _ _ (cm_plain m.mv) ?_
        simp -implicitDefEqProofs only [f1, f3, f4, g0, g1, plainL, plainB, go_sem, reduceIte, Nat.reduceEqDiff, Nat.reduceAdd, Nat.reduceLeDiff, Nat.reduceLT, decide_true, decide_false, vc_cond2, vcGrps_guard2, vcD_val2, vcD_guard2]
        exact hE
      · simp -implicitDefEqProofs only [f1, f3, f4, g0, g1, hid, inR, maxN, decide_false, Bool.false_and, go_sem, reduceIte, Nat.reduceEqDiff, Nat.reduceAdd, Nat.reduceLeDiff, Nat.reduceLT, decide_true, decide_false, vc_cond2, vcGrps_guard2, vcD_val2, vcD_guard2]
        exact hE
  clear hE g0 g1 f1 f3 f4 fr T hx hv
  rintro fr T ⟨f1, f3, f10, hE, g0, g1⟩
  cases hb : (bareOk fv m && (inR m.id maxN && plainB x.mv m.mv)) with
  | false =>
    rw [hb] at f10
    simp -implicitDefEqProofs only [f1, f3, f10, g0, g1, go_sem, reduceIte, Nat.reduceEqDiff, Nat.reduceAdd, Nat.reduceLeDiff, Nat.reduceLT, decide_true, decide_false, vc_cond2, vcGrps_guard2, vcD_val2, vcD_guard2]
    refine ⟨?_, hE⟩
    cases h1 : bareOk fv m <;> cases h2 : inR m.id maxN <;> cases h3 : plainB x.mv m.mv <;> simp_all
  | true =>
    rw [hb] at f10
    simp -implicitDefEqProofs only [f1, f3, f10, g0, g1, go_sem, reduceIte, Nat.reduceEqDiff, Nat.reduceAdd, Nat.reduceLeDiff, Nat.reduceLT, decide_true, decide_false, vc_cond2, vcGrps_guard2, vcD_val2, vcD_guard2]
    simp only [Bool.and_eq_true] at hb
    obtain ⟨h1, h2, h3⟩ := hb
    by_cases q0 : x.filter.length = m.filter.length
    · have p0 := eq_true (show ((x.filter.length : Int) = m.filter.length) by omega)
      by_cases q1 : x.select.length = m.select.length
      · have p1 := eq_true (show ((x.select.length : Int) = m.select.length) by omega)
        by_cases q2 : x.mods.length = m.mods.length
        · have p2 := eq_true (show ((x.mods.length : Int) = m.mods.length) by omega)
          by_cases q3 : x.attrs.length = m.attrs.length
          · have p3 := eq_true (show ((x.attrs.length : Int) = m.attrs.length) by omega)
            simp -implicitDefEqProofs only [f1, f3, f10, g0, g1, map_take_app, encT_take, encT_len, List.length_map, p0, p1, p2, p3, ne_eq, not_true_eq_false, not_false_eq_true, decide_true, decide_false, go_sem, reduceIte, Nat.reduceEqDiff, Nat.reduceAdd, Nat.reduceLeDiff, Nat.reduceLT, decide_true, decide_false, vc_cond2, vcGrps_guard2, vcD_val2, vcD_guard2]
            intros
            refine ⟨hE, ?_⟩
            simp [lensB, h1, h2, h3, q0, q1, q2, q3]
          · have p3 := eq_false (show ¬ ((x.attrs.length : Int) = m.attrs.length) by omega)
            simp -implicitDefEqProofs only [f1, f3, f10, g0, g1, map_take_app, encT_take, encT_len, List.length_map, p0, p1, p2, p3, ne_eq, not_true_eq_false, not_false_eq_true, decide_true, decide_false, go_sem, reduceIte, Nat.reduceEqDiff, Nat.reduceAdd, Nat.reduceLeDiff, Nat.reduceLT, decide_true, decide_false, vc_cond2, vcGrps_guard2, vcD_val2, vcD_guard2]
            intros
            exact ⟨by simp [lensB, q3], hE⟩
        · have p2 := eq_false (show ¬ ((x.mods.length : Int) = m.mods.length) by omega)
          simp -implicitDefEqProofs only [f1, f3, f10, g0, g1, map_take_app, encT_take, encT_len, List.length_map, p0, p1, p2, ne_eq, not_true_eq_false, not_false_eq_true, decide_true, decide_false, go_sem, reduceIte, Nat.reduceEqDiff, Nat.reduceAdd, Nat.reduceLeDiff, Nat.reduceLT, decide_true, decide_false, vc_cond2, vcGrps_guard2, vcD_val2, vcD_guard2]
          intros
          exact ⟨by simp [lensB, q2], hE⟩
      · have p1 := eq_false (show ¬ ((x.select.length : Int) = m.select.length) by omega)
        simp -implicitDefEqProofs only [f1, f3, f10, g0, g1, map_take_app, encT_take, encT_len, List.length_map, p0, p1, ne_eq, not_true_eq_false, not_false_eq_true, decide_true, decide_false, go_sem, reduceIte, Nat.reduceEqDiff, Nat.reduceAdd, Nat.reduceLeDiff, Nat.reduceLT, decide_true, decide_false, vc_cond2, vcGrps_guard2, vcD_val2, vcD_guard2]
        intros
        exact ⟨by simp [lensB, q1], hE⟩
    · have p0 := eq_false (show ¬ ((x.filter.length : Int) = m.filter.length) by omega)
      simp -implicitDefEqProofs only [f1, f3, f10, g0, g1, map_take_app, encT_take, encT_len, List.length_map, p0, ne_eq, not_true_eq_false, not_false_eq_true, decide_true, decide_false, go_sem, reduceIte, Nat.reduceEqDiff, Nat.reduceAdd, Nat.reduceLeDiff, Nat.reduceLT, decide_true, decide_false, vc_cond2, vcGrps_guard2, vcD_val2, vcD_guard2]
      intros
      exact ⟨by simp [lensB, q0], hE⟩
end Go.Proofs.YtajbeippbabhhaaGreatDoor.Eng

namespace Go.Proofs.YtajbeippbabhhaaGreatDoor.Eng
open Go Go.Proofs.Tryz

/-! ## Elements that are made: as their copies, of fitting size -/
def good (e : Elem) : Prop := copyE e = e ∧ okE e
theorem good_kids {e : Elem} (h : copyE e = e) : copyEs e.kids = e.kids := by
  rw [copyE_eta] at h
  have := congrArg Elem.kids h
  simpa only [Elem.kids] using this
theorem goods : ∀ (ks : List Elem), (∀ k ∈ ks, good k) → copyEs ks = ks
  | [], _ => rfl
  | k :: ks, h => by simp only [copyEs, (h k (by simp)).1, goods ks fun x hx => h x (by simp [hx])]
theorem good_nm {e : Elem} (h : good e) (n : Nat) : nmL n (encE e) := by rw [← h.1]; exact nm_copy e n
theorem goods_nm (ks : List Elem) (h : ∀ k ∈ ks, good k) (n : Nat) : nmLL n (encEs ks) := by rw [← goods ks h]; exact nm_copys ks n
theorem good_mk (c t : Int) (k : Bool) (b : Byt) (ks : List Elem) (hc : i64ok c) (ht : i64ok t) (hb : b.length ≤ maxB) (hl : ks.length * 64 ≤ maxB) (h : ∀ x ∈ ks, good x) : good (.mk c t k b ks []) := by
  refine ⟨by simp only [copyE, goods ks h], ?_⟩
  simp only [okE]
  exact ⟨hc, ht, hb, hl, okEs_of ks fun x hx => (h x hx).2⟩
theorem i64s (n : Int) (h : -1000 ≤ n ∧ n ≤ 1000) : i64ok n := by unfold i64ok; omega
theorem good_str (t : Int) (s : Byt) (ht : i64ok t) (hs : s.length ≤ maxB) : good (strE t s) := good_mk _ _ _ _ _ (i64s 0 (by omega)) ht hs (by simp) (by simp)
theorem sgnLen (v : Int) : (sgn v).length ≤ maxB := by
  have : (sgn v).length ≤ 8 := by unfold sgn; rw [beN_length]; exact (nOf_le v).2
  unfold maxB; omega
theorem good_int (t v : Int) (ht : i64ok t) : good (strE t (sgn v)) := good_str t _ ht (sgnLen v)
theorem good_bool (t : Int) (b : Bool) (ht : i64ok t) : good (strE t [if b then 255 else 0]) := good_str t _ ht (by unfold maxB; simp)
theorem good_seq (ks : List Elem) (hl : ks.length * 64 ≤ maxB) (h : ∀ x ∈ ks, good x) : good (seqE ks) := good_mk _ _ _ _ _ (i64s 0 (by omega)) (i64s 16 (by omega)) (by simp) hl h
def asE (e : Elem) (c t : Int) : Elem := .mk c t e.cons e.bytes e.kids []
theorem good_as (e : Elem) (c t : Int) (h : good e) (hc : i64ok c) (ht : i64ok t) : good (asE e c t) := by
  obtain ⟨h1, h2⟩ := h
  have hk := good_kids h1
  obtain ⟨_, _, a3, a4, a5⟩ := okE_eta h2
  refine ⟨by simp only [asE, copyE, hk], ?_⟩
  simp only [asE, okE]
  exact ⟨hc, ht, a3, a4, okEs_of _ a5⟩
def ctxE (t : Int) (e : Elem) : Elem := asE e 2 t

theorem cb_Seq (ks : List Elem) (hl : ks.length * 64 ≤ maxB) (h : ∀ x ∈ ks, good x) : Pure prog 165 [lstV ks []] (.agg (encE (seqE ks))) := by
  have := c23 ks [] hl (fun k hk => (h k hk).2)
  rw [goods ks h] at this
  exact this
theorem cb_As (e : Elem) (c t : Int) (h : good e) : Pure prog 264 [.agg (encE e), .int .i64 c, .int .i64 t] (.agg (encE (asE e c t))) := by
  have := c28 e c t h.2
  rw [good_kids h.1] at this
  exact this

/-! ## A list that grows -/
def OutL (m : Nat) (T : Store) (β : AV) (ks : List Elem) : Prop := (ks = [] ∧ β = .lit (.slice none 0 0)) ∨ ∃ k, m ≤ k ∧ k < T.n ∧ β = .own k 0 ks.length ∧ T.get k = some (.row 68 5 0 (encEs ks))
theorem OutL.out {S : Store} {m : Nat} {T : Store} {β : AV} {ks : List Elem} (h : OutL m T β ks) (hm : S.n ≤ m) (hE : Ext S T) : outK S (lstV ks []) (.ret β) T := by
  refine ⟨hE, ?_⟩
  rcases h with ⟨rfl, rfl⟩ | ⟨k, hk, hkn, rfl, hg⟩
  · exact .inl ⟨_, rfl, Wk.nil 5⟩
  · exact .inr ⟨k, _, _, _, _, _, Nat.le_trans hm hk, rfl, hg, by simp [fzOk, encEs_length], by simp [fz, lstV]⟩
/-- The list is handed on. -/
theorem OutL.give {m : Nat} {T : Store} {β : AV} {ks : List Elem} {f : FuncId} {K : AEnd → Store → Prop} (h : OutL m T β ks) (hk : ∀ T', T'.n = T.n → (∀ j, j < m → T'.get j = T.get j) → (∀ S : Store, S.n ≤ m → Ext S T → Ext S T') → ACalls prog f [lstV ks []] T' K) : ACalls prog f [β] T K := by
  rcases h with ⟨rfl, rfl⟩ | ⟨k, hk', hkn, rfl, hg⟩
  · exact ACalls.args (WkL.cons (Wk.nil 5) WkL.nil) (hk T rfl (fun _ _ => rfl) (fun _ _ h => h))
  · refine ACalls.give (l := k) hg (by simp [fzOkL, fzOk, encEs_length]) ?_
    have : fzL k 5 (encEs ks) [AV.own k 0 ks.length] = [lstV ks []] := by simp [fzL, fz, lstV]
    rw [this]
    exact hk _ rfl (fun j hj => Store.get_set_ne _ _ (by omega)) (fun S hS h => h.set _ _ (by omega))
theorem encEs_one (e : Elem) : [encE e] = encEs [e] := rfl
theorem encEs_apps : ∀ (a b : List Elem), encEs a ++ encEs b = encEs (a ++ b)
  | [], b => rfl
  | x :: a, b => by simp only [List.cons_append, encEs, encEs_apps a b]
theorem OutL.nil (m : Nat) (T : Store) : OutL m T (.lit (.slice none 0 0)) [] := .inl ⟨rfl, rfl⟩
theorem OutL.one {m : Nat} {T : Store} (e : Elem) (hm : m ≤ T.n) : OutL m (T.push (.row 68 5 0 [encE e])) (.own T.n 0 1) [e] :=
  .inr ⟨T.n, hm, by rw [Store.n_push]; omega, rfl, by rw [Store.get_push_same]; rfl⟩
theorem OutL.more {m : Nat} {T : Store} {ks : List Elem} (j : Nat) (e : Elem) (hm : m ≤ T.n) : OutL m ((T.set j none).push (.row 68 5 0 (encEs ks ++ [encE e]))) (.own T.n 0 (ks.length + 1)) (ks ++ [e]) :=
  .inr ⟨T.n, hm, by rw [Store.n_push, Store.n_set]; omega, by simp, by rw [← Store.n_set T j none, Store.get_push_same, encEs_one, encEs_apps]⟩
/-- What an element's variable holds at first. -/
def ZE : List AV := [.int .i64 0, .int .i64 0, .bool false, .str [], .lit (.slice none 0 0)]
theorem splice_ZE (e : Elem) : splice ZE 0 (encE e) = encE e := by unfold ZE; exact splice_encE _ _ _ _ _ e
theorem splice_EE (a e : Elem) : splice (encE a) 0 (encE e) = encE e := by rw [encE_eta a]; exact splice_encE _ _ _ _ _ e
theorem ZE_len : ZE.length = 5 := rfl
theorem ZE_fold : [AV.int .i64 0, .int .i64 0, .bool false, .str [], .lit (.slice none 0 0)] = ZE := rfl
attribute [go_sem] encE_length encE_take5 splice_encE splice_ZE splice_EE ZE_len ZE_fold

/-! ## str, ctx -/
theorem cm_str (s : Byt) (hs : s.length ≤ maxB) : Pure prog 163 [.str s] (.agg (encE (strE 4 s))) := by
  refine Pure.of (fun n _ => by simp only [nm]; exact good_nm (good_str 4 s (i64s 4 (by omega)) hs) n) fun S => acalls_of_vc lowm_str (by simp) ?_
  have hx := (Ext.refl S).push
  simp -implicitDefEqProofs only [Bm_str, go_sem, reduceIte, Nat.reduceEqDiff, Nat.reduceAdd, Nat.reduceLeDiff, Nat.reduceLT, decide_true, decide_false, vc_cond2, vcGrps_guard2, vcD_val2, vcD_guard2]
  refine (c21 4 s).use ?_
  simp -implicitDefEqProofs only [encE_length, encE_take5, splice_encE, go_sem, reduceIte, Nat.reduceEqDiff, Nat.reduceAdd, Nat.reduceLeDiff, Nat.reduceLT, decide_true, decide_false, vc_cond2, vcGrps_guard2, vcD_val2, vcD_guard2]
  exact (hx _).set _ _ (Nat.le_refl _)
theorem cm_ctx (t : Int) (e : Elem) (h : good e) (ht : i64ok t) : Pure prog 166 [.int .i64 t, .agg (encE e)] (.agg (encE (ctxE t e))) := by
  refine Pure.of (fun n _ => by simp only [nm]; exact good_nm (good_as e 2 t h (i64s 2 (by omega)) ht) n) fun S => acalls_of_vc lowm_ctx (by simp) ?_
  have hx := (Ext.refl S).push
  simp -implicitDefEqProofs only [Bm_ctx, encE_length, encE_take5, splice_encE, go_sem, reduceIte, Nat.reduceEqDiff, Nat.reduceAdd, Nat.reduceLeDiff, Nat.reduceLT, decide_true, decide_false, vc_cond2, vcGrps_guard2, vcD_val2, vcD_guard2]
  refine (cb_As e 2 t h).use ?_
  simp -implicitDefEqProofs only [encE_length, encE_take5, splice_encE, go_sem, reduceIte, Nat.reduceEqDiff, Nat.reduceAdd, Nat.reduceLeDiff, Nat.reduceLT, decide_true, decide_false, vc_cond2, vcGrps_guard2, vcD_val2, vcD_guard2]
  exact ⟨rfl, ((hx _).push _).set _ _ (by omega)⟩

/-! ## Lists of texts -/
def strsE (l : List Byt) : List Elem := l.map (strE 4)
def okT (l : List Byt) : Prop := l.length ≤ 1048576 ∧ ∀ s ∈ l, s.length ≤ maxB
theorem len_b {n : Nat} (h : n ≤ 1048600) : n * 64 ≤ maxB := by unfold maxB; omega
theorem okT_b {l : List Byt} (h : okT l) : l.length * 64 ≤ maxB := len_b (by have := h.1; omega)
theorem strsE_len (l : List Byt) : (strsE l).length = l.length := by simp [strsE]
theorem good_strs {l : List Byt} (h : okT l) : ∀ k ∈ strsE l, good k := fun k hk => by
  obtain ⟨s, hs, rfl⟩ := List.mem_map.1 hk
  exact good_str 4 s (i64s 4 (by omega)) (h.2 s hs)
theorem take_snoc {α : Type} {l : List α} {i : Nat} {k : α} (h : l[i]? = some k) : l.take (i + 1) = l.take i ++ [k] := by
  rw [List.take_add_one, h]; rfl
theorem encT_at {l : List Byt} {i : Nat} {k : Byt} (x : List (List AV)) (h : l[i]? = some k) : (encT l ++ x)[i]? = some [.str k] := by
  have hi := (List.getElem?_eq_some_iff.1 h).1
  rw [List.getElem?_append_left (by rw [encT_len]; exact hi)]
  simp [encT, h]

theorem cm_strs (l : List Byt) (x : List (List AV)) (hl : okT l) : Pure prog 256 [txV l x] (lstV (strsE l) []) := by
  refine Pure.outA (fun n _ => by simp only [nm, lstV, List.append_nil]; exact goods_nm _ (good_strs hl) n) fun S => acalls_of_vc lowm_strs (by simp) ?_
  obtain ⟨hlb, hls⟩ := hl
  unfold txV
  simp -implicitDefEqProofs only [Bm_strs, encT_take, encT_len, go_sem, reduceIte, Nat.reduceEqDiff, Nat.reduceAdd, Nat.reduceLeDiff, Nat.reduceLT, decide_true, decide_false, vc_cond2, vcGrps_guard2, vcD_val2, vcD_guard2]
  intro _
  refine vc_loop (fun n fr T => ∃ i, i + n = l.length ∧ fr 6 = .sl 1 (encT l ++ x) l.length ∧ fr 7 = .int .i64 l.length ∧ fr 8 = .int .i64 i ∧ Ext S T ∧ OutL S.n T (fr 3) (strsE (l.take i))) l.length
    ⟨0, by simp, rfl, rfl, rfl, Ext.refl _, (.inl ⟨rfl, rfl⟩)⟩ ?_
  rintro n fr T ⟨i, hin, f6, f7, f8, hE, hO⟩
  by_cases hlt : i < l.length
  · obtain ⟨k, hk⟩ : ∃ k, l[i]? = some k := ⟨_, List.getElem?_eq_getElem hlt⟩
    have hat := encT_at x hk
    have h0 : (0 : Int) ≤ i := by omega
    have hlt' : (i : Int) < l.length := by omega
    have hi1 : IntKind.i64.wrap ((i : Int) + 1) = i + 1 := w64 _ (by omega) (by omega)
    have hks := hls k (List.mem_of_getElem? hk)
    have hte : strsE (l.take (i + 1)) = strsE (l.take i) ++ [strE 4 k] := by rw [take_snoc hk]; simp [strsE]
    have hil : (strsE (l.take i)).length = i := by simp [strsE]; omega
    rcases hO with ⟨hn0, f3⟩ | ⟨j, hj, hjn, f3, hg⟩
    · simp -implicitDefEqProofs only [f3, f6, f7, f8, hlt, hlt', h0, hat, decide_true, go_sem, reduceIte, Nat.reduceEqDiff, Nat.reduceAdd, Nat.reduceLeDiff, Nat.reduceLT, decide_true, decide_false, vc_cond2, vcGrps_guard2, vcD_val2, vcD_guard2]
      refine (cm_str k hks).use ?_
      simp -implicitDefEqProofs only [f3, f6, f7, f8, hi1, encE_length, List.take_length, go_sem, reduceIte, Nat.reduceEqDiff, Nat.reduceAdd, Nat.reduceLeDiff, Nat.reduceLT, decide_true, decide_false, vc_cond2, vcGrps_guard2, vcD_val2, vcD_guard2]
      refine ⟨by omega, n - 1, by omega, i + 1, by omega, by simp, hE.push _, ?_⟩
      rw [hte, hn0]
      exact OutL.one _ hE.n
    · simp -implicitDefEqProofs only [f3, f6, f7, f8, hlt, hlt', h0, hat, decide_true, go_sem, reduceIte, Nat.reduceEqDiff, Nat.reduceAdd, Nat.reduceLeDiff, Nat.reduceLT, decide_true, decide_false, vc_cond2, vcGrps_guard2, vcD_val2, vcD_guard2]
      refine (cm_str k hks).use ?_
      simp -implicitDefEqProofs only [f3, f6, f7, f8, hg, hi1, encE_length, encEs_length, hil, List.take_length, go_sem, reduceIte, Nat.reduceEqDiff, Nat.reduceAdd, Nat.reduceLeDiff, Nat.reduceLT, decide_true, decide_false, vc_cond2, vcGrps_guard2, vcD_val2, vcD_guard2]
      refine ⟨by omega, n - 1, by omega, i + 1, by omega, by simp, (hE.set _ _ hj).push _, ?_⟩
      rw [hte]
      have := OutL.more (ks := strsE (l.take i)) j (strE 4 k) hE.n
      rw [hil] at this; exact this
  · have hlt' : ¬ (i : Int) < l.length := by omega
    have hi : i = l.length := by omega
    rw [hi, List.take_length] at hO
    simp -implicitDefEqProofs only [f6, f7, f8, hlt', decide_false, go_sem, reduceIte, Nat.reduceEqDiff, Nat.reduceAdd, Nat.reduceLeDiff, Nat.reduceLT, decide_true, decide_false, vc_cond2, vcGrps_guard2, vcD_val2, vcD_guard2]
    exact hO.out (Nat.le_refl _) hE
end Go.Proofs.YtajbeippbabhhaaGreatDoor.Eng

namespace Go.Proofs.YtajbeippbabhhaaGreatDoor.Eng
open Go Go.Proofs.Tryz

def attrE (t : Byt) (l : List Byt) : Elem := seqE [strE 4 t, asE (seqE (strsE l)) 0 17]
def attE (a : Att) : Elem := attrE a.typ a.values
theorem good_strsq {l : List Byt} (h : okT l) : good (seqE (strsE l)) := good_seq _ (by rw [strsE_len]; exact okT_b h) (good_strs h)
theorem good_attr {t : Byt} {l : List Byt} (ht : t.length ≤ maxB) (h : okT l) : good (attrE t l) := good_seq _ (by unfold maxB; simp) fun x hx => by
  simp only [List.mem_cons, List.not_mem_nil, or_false] at hx
  rcases hx with rfl | rfl
  · exact good_str 4 t (i64s 4 (by omega)) ht
  · exact good_as _ _ _ (good_strsq h) (i64s 0 (by omega)) (i64s 17 (by omega))
theorem cm_attr (t : Byt) (l : List Byt) (x : List (List AV)) (ht : t.length ≤ maxB) (h : okT l) : Pure prog 310 [.str t, txV l x] (.agg (encE (attrE t l))) := by
  refine Pure.of (fun n _ => by simp only [nm]; exact good_nm (good_attr ht h) n) fun S => acalls_of_vc lowm_attr (by simp) ?_
  have hx := (Ext.refl S).push
  unfold Bm_attr
  simp -implicitDefEqProofs only [go_sem, reduceIte, Nat.reduceEqDiff, Nat.reduceAdd, Nat.reduceLeDiff, Nat.reduceLT, decide_true, decide_false, vc_cond2, vcGrps_guard2, vcD_val2, vcD_guard2]
  refine (cm_str t ht).use ?_
  simp -implicitDefEqProofs only [encE_length, encE_take5, splice_encE, go_sem, reduceIte, Nat.reduceEqDiff, Nat.reduceAdd, Nat.reduceLeDiff, Nat.reduceLT, decide_true, decide_false, vc_cond2, vcGrps_guard2, vcD_val2, vcD_guard2]
  refine (cm_strs l x h).use ?_
  simp -implicitDefEqProofs only [encE_length, encE_take5, splice_encE, go_sem, reduceIte, Nat.reduceEqDiff, Nat.reduceAdd, Nat.reduceLeDiff, Nat.reduceLT, decide_true, decide_false, vc_cond2, vcGrps_guard2, vcD_val2, vcD_guard2]
  refine (cb_Seq (strsE l) (by rw [strsE_len]; exact okT_b h) (good_strs h)).use ?_
  simp -implicitDefEqProofs only [encE_length, encE_take5, splice_encE, go_sem, reduceIte, Nat.reduceEqDiff, Nat.reduceAdd, Nat.reduceLeDiff, Nat.reduceLT, decide_true, decide_false, vc_cond2, vcGrps_guard2, vcD_val2, vcD_guard2]
  refine (cb_As (seqE (strsE l)) 0 17 (good_strsq h)).use ?_
  simp -implicitDefEqProofs only [encE_length, encE_take5, splice_encE, go_sem, reduceIte, Nat.reduceEqDiff, Nat.reduceAdd, Nat.reduceLeDiff, Nat.reduceLT, decide_true, decide_false, vc_cond2, vcGrps_guard2, vcD_val2, vcD_guard2]
  refine (cb_Seq [strE 4 t, asE (seqE (strsE l)) 0 17] (by unfold maxB; simp) (fun x hx => by
    simp only [List.mem_cons, List.not_mem_nil, or_false] at hx
    rcases hx with rfl | rfl
    · exact good_str 4 t (i64s 4 (by omega)) ht
    · exact good_as _ _ _ (good_strsq h) (i64s 0 (by omega)) (i64s 17 (by omega)))).use ?_
  simp -implicitDefEqProofs only [encE_length, encE_take5, splice_encE, go_sem, reduceIte, Nat.reduceEqDiff, Nat.reduceAdd, Nat.reduceLeDiff, Nat.reduceLT, decide_true, decide_false, vc_cond2, vcGrps_guard2, vcD_val2, vcD_guard2]
  exact ⟨rfl, (hx _).set _ _ (Nat.le_refl _)⟩

/-! ## Attributes -/
def okA (a : Att) : Prop := a.typ.length ≤ maxB ∧ okT a.values
def okAs (l : List Att) : Prop := l.length ≤ 1048576 ∧ ∀ a ∈ l, okA a
def attrsE (l : List Att) : Elem := seqE (l.map attE)
theorem good_atts {l : List Att} (h : okAs l) : ∀ k ∈ l.map attE, good k := fun k hk => by
  obtain ⟨s, hs, rfl⟩ := List.mem_map.1 hk
  exact good_attr (h.2 s hs).1 (h.2 s hs).2
theorem good_attrs {l : List Att} (h : okAs l) : good (attrsE l) := good_seq _ (len_b (by have := h.1; simp; omega)) (good_atts h)

theorem cm_attrs (l : List Att) (x : List (List AV)) (hl : okAs l) : Pure prog 258 [attV l x] (.agg (encE (attrsE l))) := by
  refine Pure.of (fun n _ => by simp only [nm]; exact good_nm (good_attrs hl) n) fun S => acalls_of_vc lowm_attrs (by simp) ?_
  have hgs := good_atts hl
  obtain ⟨hlb, hls⟩ := hl
  have hlb' : l.length * 64 ≤ maxB := len_b (by omega)
  unfold attV
  unfold Bm_attrs
  refine vc_cut (fun fr T => fr 0 = .sl 2 (l.map Att.enc ++ x) l.length ∧ fr 2 = .ptr S.n 0 ∧ Ext S T ∧ T.n = S.n + 1 ∧ T.get S.n = some (.box 68 ZE)) ?_ ?_
  · simp -implicitDefEqProofs only [go_sem, reduceIte, Nat.reduceEqDiff, Nat.reduceAdd, Nat.reduceLeDiff, Nat.reduceLT, decide_true, decide_false, vc_cond2, vcGrps_guard2, vcD_val2, vcD_guard2]
    exact (Ext.refl S).push _
  rintro fr T ⟨f0, f2, hE, hn, hg2⟩
  refine vc_cut (fun fr T => fr 0 = .sl 2 (l.map Att.enc ++ x) l.length ∧ fr 2 = .ptr S.n 0 ∧ fr 3 = .lit (.slice none 0 0) ∧ Ext S T ∧ T.n = S.n + 1 ∧ T.get S.n = some (.box 68 ZE)) ?_ ?_
  · simp -implicitDefEqProofs only [f0, f2, go_sem, reduceIte, Nat.reduceEqDiff, Nat.reduceAdd, Nat.reduceLeDiff, Nat.reduceLT, decide_true, decide_false, vc_cond2, vcGrps_guard2, vcD_val2, vcD_guard2]
    exact ⟨hE, hn, hg2⟩
  clear hE hn hg2 f0 f2 fr T
  rintro fr T ⟨f0, f2, f3, hE, hn, hg2⟩
  refine vc_cut (fun fr T => fr 2 = .ptr S.n 0 ∧ Ext S T ∧ T.get S.n = some (.box 68 ZE) ∧ OutL (S.n + 1) T (fr 3) (l.map attE)) ?_ ?_
  rotate_left
  · clear hE hn hg2 f0 f2 f3 fr T
    rintro fr T ⟨f2, hE, hg2, hO⟩
    generalize h3 : fr 3 = β at hO
    simp -implicitDefEqProofs only [f2, h3, hg2, go_sem, reduceIte, Nat.reduceEqDiff, Nat.reduceAdd, Nat.reduceLeDiff, Nat.reduceLT, decide_true, decide_false, vc_cond2, vcGrps_guard2, vcD_val2, vcD_guard2]
    refine hO.give fun T' hn' hsame hE' => ?_
    have hg2' : T'.get S.n = some (.box 68 ZE) := by rw [hsame _ (by omega)]; exact hg2
    refine (cb_Seq (l.map attE) (by simpa using hlb') hgs).use ?_
    simp -implicitDefEqProofs only [f2, hg2', encE_length, encE_take5, splice_encE, go_sem, reduceIte, Nat.reduceEqDiff, Nat.reduceAdd, Nat.reduceLeDiff, Nat.reduceLT, decide_true, decide_false, vc_cond2, vcGrps_guard2, vcD_val2, vcD_guard2]
    exact ⟨rfl, (hE' S (by omega) hE).set _ _ (Nat.le_refl _)⟩
  simp -implicitDefEqProofs only [f0, f2, f3, map_take_app, List.length_map, go_sem, reduceIte, Nat.reduceEqDiff, Nat.reduceAdd, Nat.reduceLeDiff, Nat.reduceLT, decide_true, decide_false, vc_cond2, vcGrps_guard2, vcD_val2, vcD_guard2]
  intro _
  refine vc_loop (fun n fr T => ∃ i, i + n = l.length ∧ fr 2 = .ptr S.n 0 ∧ fr 6 = .sl 2 (l.map Att.enc ++ x) l.length ∧ fr 7 = .int .i64 l.length ∧ fr 8 = .int .i64 i ∧ Ext S T ∧ S.n + 1 ≤ T.n ∧ T.get S.n = some (.box 68 ZE) ∧ OutL (S.n + 1) T (fr 3) ((l.take i).map attE)) l.length
    ⟨0, by simp, f2, rfl, rfl, rfl, hE, by omega, hg2, .inl ⟨rfl, f3⟩⟩ ?_
  clear hE hn hg2 f0 f2 f3 fr T
  rintro n fr T ⟨i, hin, f2, f6, f7, f8, hE, hn, hg2, hO⟩
  by_cases hlt : i < l.length
  · obtain ⟨k, hk⟩ : ∃ k, l[i]? = some k := ⟨_, List.getElem?_eq_getElem hlt⟩
    have hat := map_at_app Att.enc x hk
    have h0 : (0 : Int) ≤ i := by omega
    have hlt' : (i : Int) < l.length := by omega
    have hi1 : IntKind.i64.wrap ((i : Int) + 1) = i + 1 := w64 _ (by omega) (by omega)
    have hks := hls k (List.mem_of_getElem? hk)
    have hte : (l.take (i + 1)).map attE = (l.take i).map attE ++ [attE k] := by rw [take_snoc hk]; simp
    have hil : ((l.take i).map attE).length = i := by simp; omega
    have hd : attE k = attrE k.typ k.values := rfl
    have q1 : ¬ S.n = T.n := by omega
    have q2 : ¬ S.n = T.n + 1 := by omega
    rcases hO with ⟨hn0, f3⟩ | ⟨j, hj, hjn, f3, hg⟩
    · simp -implicitDefEqProofs only [f2, f3, f6, f7, f8, hlt, hlt', h0, hat, decide_true, go_sem, reduceIte, Nat.reduceEqDiff, Nat.reduceAdd, Nat.reduceLeDiff, Nat.reduceLT, decide_true, decide_false, vc_cond2, vcGrps_guard2, vcD_val2, vcD_guard2]
      refine (cm_attr k.typ k.values k.valX hks.1 hks.2).use ?_
      simp -implicitDefEqProofs only [f2, f3, f6, f7, f8, hi1, q1, q2, encE_length, List.take_length, go_sem, reduceIte, Nat.reduceEqDiff, Nat.reduceAdd, Nat.reduceLeDiff, Nat.reduceLT, decide_true, decide_false, vc_cond2, vcGrps_guard2, vcD_val2, vcD_guard2]
      refine ⟨by omega, n - 1, by omega, i + 1, by omega, by simp, ((hE.push _).set _ _ (by omega)).push _, by omega, hg2, ?_⟩
      rw [hte, hn0, hd]
      exact OutL.one (T := (T.push (.box 79 [AV.str [], AV.lit (Value.slice none 0 0)])).set T.n (some (.box 79 k.enc))) _ (by rw [Store.n_set, Store.n_push]; omega)
    · simp -implicitDefEqProofs only [f2, f3, f6, f7, f8, hlt, hlt', h0, hat, decide_true, go_sem, reduceIte, Nat.reduceEqDiff, Nat.reduceAdd, Nat.reduceLeDiff, Nat.reduceLT, decide_true, decide_false, vc_cond2, vcGrps_guard2, vcD_val2, vcD_guard2]
      refine (cm_attr k.typ k.values k.valX hks.1 hks.2).use ?_
      have hj2 : ¬ j = T.n := by omega
      have hj3 : ¬ S.n = j := by omega
      simp -implicitDefEqProofs only [f2, f3, f6, f7, f8, hi1, hg, hj2, hj3, q1, q2, encE_length, encEs_length, hil, List.take_length, go_sem, reduceIte, Nat.reduceEqDiff, Nat.reduceAdd, Nat.reduceLeDiff, Nat.reduceLT, decide_true, decide_false, vc_cond2, vcGrps_guard2, vcD_val2, vcD_guard2]
      refine ⟨by omega, n - 1, by omega, i + 1, by omega, by simp, (((hE.push _).set _ _ (by omega)).set _ _ (by omega)).push _, by omega, hg2, ?_⟩
      rw [hte, hd]
      have := OutL.more (m := S.n + 1) (T := (T.push (.box 79 [AV.str [], AV.lit (Value.slice none 0 0)])).set T.n (some (.box 79 k.enc))) (ks := (l.take i).map attE) j (attrE k.typ k.values) (by rw [Store.n_set, Store.n_push]; omega)
      rw [hil] at this; exact this
  · have hlt' : ¬ (i : Int) < l.length := by omega
    have hi : i = l.length := by omega
    rw [hi, List.take_length] at hO
    simp -implicitDefEqProofs only [f2, f6, f7, f8, hlt', decide_false, go_sem, reduceIte, Nat.reduceEqDiff, Nat.reduceAdd, Nat.reduceLeDiff, Nat.reduceLT, decide_true, decide_false, vc_cond2, vcGrps_guard2, vcD_val2, vcD_guard2]
    exact ⟨hE, hg2, hO⟩

/-! ## Changes -/
def modE (c : Mdf) : Elem := seqE [strE 10 (sgn c.op), attrE c.typ c.values]
def okMd (c : Mdf) : Prop := i64ok c.op ∧ c.typ.length ≤ maxB ∧ okT c.values
def okMs (l : List Mdf) : Prop := l.length ≤ 1048576 ∧ ∀ a ∈ l, okMd a
def modsE (l : List Mdf) : Elem := seqE (l.map modE)
theorem good2 {a b : Elem} (ha : good a) (hb : good b) : ∀ x ∈ [a, b], good x := fun x hx => by
  simp only [List.mem_cons, List.not_mem_nil, or_false] at hx
  rcases hx with rfl | rfl
  · exact ha
  · exact hb
theorem good_mod {c : Mdf} (h : okMd c) : good (modE c) := good_seq _ (by unfold maxB; simp) (good2 (good_int 10 _ (i64s 10 (by omega))) (good_attr h.2.1 h.2.2))
theorem good_mds {l : List Mdf} (h : okMs l) : ∀ k ∈ l.map modE, good k := fun k hk => by
  obtain ⟨s, hs, rfl⟩ := List.mem_map.1 hk
  exact good_mod (h.2 s hs)
theorem good_mods {l : List Mdf} (h : okMs l) : good (modsE l) := good_seq _ (len_b (by have := h.1; simp; omega)) (good_mds h)

theorem cm_mods (l : List Mdf) (x : List (List AV)) (hl : okMs l) : Pure prog 257 [mdfV l x] (.agg (encE (modsE l))) := by
  refine Pure.of (fun n _ => by simp only [nm]; exact good_nm (good_mods hl) n) fun S => acalls_of_vc lowm_mods (by simp) ?_
  have hgs := good_mds hl
  obtain ⟨hlb, hls⟩ := hl
  have hlb' : l.length * 64 ≤ maxB := len_b (by omega)
  unfold mdfV
  unfold Bm_mods
  refine vc_cut (fun fr T => fr 0 = .sl 3 (l.map Mdf.enc ++ x) l.length ∧ fr 2 = .ptr S.n 0 ∧ Ext S T ∧ T.n = S.n + 1 ∧ T.get S.n = some (.box 68 ZE)) ?_ ?_
  · simp -implicitDefEqProofs only [go_sem, reduceIte, Nat.reduceEqDiff, Nat.reduceAdd, Nat.reduceLeDiff, Nat.reduceLT, decide_true, decide_false, vc_cond2, vcGrps_guard2, vcD_val2, vcD_guard2]
    exact (Ext.refl S).push _
  rintro fr T ⟨f0, f2, hE, hn, hg2⟩
  refine vc_cut (fun fr T => fr 0 = .sl 3 (l.map Mdf.enc ++ x) l.length ∧ fr 2 = .ptr S.n 0 ∧ fr 3 = .lit (.slice none 0 0) ∧ Ext S T ∧ T.n = S.n + 1 ∧ T.get S.n = some (.box 68 ZE)) ?_ ?_
  · simp -implicitDefEqProofs only [f0, f2, go_sem, reduceIte, Nat.reduceEqDiff, Nat.reduceAdd, Nat.reduceLeDiff, Nat.reduceLT, decide_true, decide_false, vc_cond2, vcGrps_guard2, vcD_val2, vcD_guard2]
    exact ⟨hE, hn, hg2⟩
  clear hE hn hg2 f0 f2 fr T
  rintro fr T ⟨f0, f2, f3, hE, hn, hg2⟩
  refine vc_cut (fun fr T => fr 2 = .ptr S.n 0 ∧ Ext S T ∧ T.get S.n = some (.box 68 ZE) ∧ OutL (S.n + 1) T (fr 3) (l.map modE)) ?_ ?_
  rotate_left
  · clear hE hn hg2 f0 f2 f3 fr T
    rintro fr T ⟨f2, hE, hg2, hO⟩
    generalize h3 : fr 3 = β at hO
    simp -implicitDefEqProofs only [f2, h3, hg2, go_sem, reduceIte, Nat.reduceEqDiff, Nat.reduceAdd, Nat.reduceLeDiff, Nat.reduceLT, decide_true, decide_false, vc_cond2, vcGrps_guard2, vcD_val2, vcD_guard2]
    refine hO.give fun T' hn' hsame hE' => ?_
    have hg2' : T'.get S.n = some (.box 68 ZE) := by rw [hsame _ (by omega)]; exact hg2
    refine (cb_Seq (l.map modE) (by simpa using hlb') hgs).use ?_
    simp -implicitDefEqProofs only [f2, hg2', go_sem, reduceIte, Nat.reduceEqDiff, Nat.reduceAdd, Nat.reduceLeDiff, Nat.reduceLT, decide_true, decide_false, vc_cond2, vcGrps_guard2, vcD_val2, vcD_guard2]
    exact ⟨rfl, (hE' S (by omega) hE).set _ _ (Nat.le_refl _)⟩
  simp -implicitDefEqProofs only [f0, f2, f3, map_take_app, List.length_map, go_sem, reduceIte, Nat.reduceEqDiff, Nat.reduceAdd, Nat.reduceLeDiff, Nat.reduceLT, decide_true, decide_false, vc_cond2, vcGrps_guard2, vcD_val2, vcD_guard2]
  intro _
  refine vc_loop (fun n fr T => ∃ i, i + n = l.length ∧ fr 2 = .ptr S.n 0 ∧ fr 6 = .sl 3 (l.map Mdf.enc ++ x) l.length ∧ fr 7 = .int .i64 l.length ∧ fr 8 = .int .i64 i ∧ Ext S T ∧ S.n + 1 ≤ T.n ∧ T.get S.n = some (.box 68 ZE) ∧ OutL (S.n + 1) T (fr 3) ((l.take i).map modE)) l.length
    ⟨0, by simp, f2, rfl, rfl, rfl, hE, by omega, hg2, .inl ⟨rfl, f3⟩⟩ ?_
  clear hE hn hg2 f0 f2 f3 fr T
  rintro n fr T ⟨i, hin, f2, f6, f7, f8, hE, hn, hg2, hO⟩
  by_cases hlt : i < l.length
  · obtain ⟨k, hk⟩ : ∃ k, l[i]? = some k := ⟨_, List.getElem?_eq_getElem hlt⟩
    have hat := map_at_app Mdf.enc x hk
    have h0 : (0 : Int) ≤ i := by omega
    have hlt' : (i : Int) < l.length := by omega
    have hi1 : IntKind.i64.wrap ((i : Int) + 1) = i + 1 := w64 _ (by omega) (by omega)
    have hks := hls k (List.mem_of_getElem? hk)
    have hte : (l.take (i + 1)).map modE = (l.take i).map modE ++ [modE k] := by rw [take_snoc hk]; simp
    have hil : ((l.take i).map modE).length = i := by simp; omega
    have hd : modE k = seqE [strE 10 (sgn k.op), attrE k.typ k.values] := rfl
    have q1 : ¬ S.n = T.n := by omega
    have q2 : ¬ S.n = T.n + 1 := by omega
    have p1 := c20 10 k.op hks.1
    have p2 := cm_attr k.typ k.values k.valX hks.2.1 hks.2.2
    have p3 := cb_Seq [strE 10 (sgn k.op), attrE k.typ k.values] (by unfold maxB; simp) (good2 (good_int 10 _ (i64s 10 (by omega))) (good_attr hks.2.1 hks.2.2))
    rcases hO with ⟨hn0, f3⟩ | ⟨j, hj, hjn, f3, hg⟩
    · simp -implicitDefEqProofs only [f2, f3, f6, f7, f8, hlt, hlt', h0, hat, decide_true, go_sem, reduceIte, Nat.reduceEqDiff, Nat.reduceAdd, Nat.reduceLeDiff, Nat.reduceLT, decide_true, decide_false, vc_cond2, vcGrps_guard2, vcD_val2, vcD_guard2]
      refine vcDO_by _ _ _ _ _ _ _ _ _ _ _ p1 ?_
      simp -implicitDefEqProofs only [f2, f3, f6, f7, f8, go_sem, reduceIte, Nat.reduceEqDiff, Nat.reduceAdd, Nat.reduceLeDiff, Nat.reduceLT, decide_true, decide_false, vc_cond2, vcGrps_guard2, vcD_val2, vcD_guard2]
      refine vcDO_by _ _ _ _ _ _ _ _ _ _ _ p2 ?_
      simp -implicitDefEqProofs only [f2, f3, f6, f7, f8, go_sem, reduceIte, Nat.reduceEqDiff, Nat.reduceAdd, Nat.reduceLeDiff, Nat.reduceLT, decide_true, decide_false, vc_cond2, vcGrps_guard2, vcD_val2, vcD_guard2]
      refine vcDO_by _ _ _ _ _ _ _ _ _ _ _ p3 ?_
      simp -implicitDefEqProofs only [f2, f3, f6, f7, f8, hi1, q1, q2, List.take_length, go_sem, reduceIte, Nat.reduceEqDiff, Nat.reduceAdd, Nat.reduceLeDiff, Nat.reduceLT, decide_true, decide_false, vc_cond2, vcGrps_guard2, vcD_val2, vcD_guard2]
      refine ⟨by omega, ⟨p2.ok, p1.ok⟩, n - 1, by omega, i + 1, by omega, by simp, ((hE.push _).set _ _ (by omega)).push _, by omega, hg2, ?_⟩
      rw [hte, hn0, hd]
      exact OutL.one (T := (T.push (.box 81 [AV.int .i64 0, AV.str [], AV.lit (Value.slice none 0 0)])).set T.n (some (.box 81 k.enc))) _ (by rw [Store.n_set, Store.n_push]; omega)
    · have hj2 : ¬ j = T.n := by omega
      have hj3 : ¬ S.n = j := by omega
      have hj4 : ¬ T.n = j := by omega
      simp -implicitDefEqProofs only [f2, f3, f6, f7, f8, hlt, hlt', h0, hat, decide_true, go_sem, reduceIte, Nat.reduceEqDiff, Nat.reduceAdd, Nat.reduceLeDiff, Nat.reduceLT, decide_true, decide_false, vc_cond2, vcGrps_guard2, vcD_val2, vcD_guard2]
      refine vcDO_by _ _ _ _ _ _ _ _ _ _ _ p1 ?_
      simp -implicitDefEqProofs only [f2, f3, f6, f7, f8, go_sem, reduceIte, Nat.reduceEqDiff, Nat.reduceAdd, Nat.reduceLeDiff, Nat.reduceLT, decide_true, decide_false, vc_cond2, vcGrps_guard2, vcD_val2, vcD_guard2]
      refine vcDO_by _ _ _ _ _ _ _ _ _ _ _ p2 ?_
      simp -implicitDefEqProofs only [f2, f3, f6, f7, f8, go_sem, reduceIte, Nat.reduceEqDiff, Nat.reduceAdd, Nat.reduceLeDiff, Nat.reduceLT, decide_true, decide_false, vc_cond2, vcGrps_guard2, vcD_val2, vcD_guard2]
      refine vcDO_by _ _ _ _ _ _ _ _ _ _ _ p3 ?_
      simp -implicitDefEqProofs only [f2, f3, f6, f7, f8, hi1, hg, hj2, hj3, hj4, q1, q2, encEs_length, hil, List.take_length, go_sem, reduceIte, Nat.reduceEqDiff, Nat.reduceAdd, Nat.reduceLeDiff, Nat.reduceLT, decide_true, decide_false, vc_cond2, vcGrps_guard2, vcD_val2, vcD_guard2]
      refine ⟨by omega, ⟨p2.ok, p1.ok⟩, n - 1, by omega, i + 1, by omega, by simp, (((hE.push _).set _ _ (by omega)).set _ _ (by omega)).push _, by omega, hg2, ?_⟩
      rw [hte, hd]
      have := OutL.more (m := S.n + 1) (T := (T.push (.box 81 [AV.int .i64 0, AV.str [], AV.lit (Value.slice none 0 0)])).set T.n (some (.box 81 k.enc))) (ks := (l.take i).map modE) j (seqE [strE 10 (sgn k.op), attrE k.typ k.values]) (by rw [Store.n_set, Store.n_push]; omega)
      rw [hil] at this; exact this
  · have hlt' : ¬ (i : Int) < l.length := by omega
    have hi : i = l.length := by omega
    rw [hi, List.take_length] at hO
    simp -implicitDefEqProofs only [f2, f6, f7, f8, hlt', decide_false, go_sem, reduceIte, Nat.reduceEqDiff, Nat.reduceAdd, Nat.reduceLeDiff, Nat.reduceLT, decide_true, decide_false, vc_cond2, vcGrps_guard2, vcD_val2, vcD_guard2]
    exact ⟨hE, hg2, hO⟩
end Go.Proofs.YtajbeippbabhhaaGreatDoor.Eng

namespace Go.Proofs.YtajbeippbabhhaaGreatDoor.Eng
open Go Go.Proofs.Tryz

/-! ## A pattern's pieces -/
def pieceE (t : Int) (s : Byt) : Elem := ctxE t (strE 4 s)
def optE (t : Int) (s : Byt) : List Elem := if s = [] then [] else [pieceE t s]
def pieceL (p : Fil) : List Elem := optE 0 p.init ++ (p.any.map (pieceE 1) ++ optE 2 p.final)
def okF (p : Fil) : Prop := i64ok p.op ∧ i64ok p.n ∧ p.typ.length ≤ maxB ∧ p.value.length ≤ maxB ∧ p.init.length ≤ maxB ∧ p.final.length ≤ maxB ∧ okT p.any
theorem good_piece (t : Int) (s : Byt) (ht : i64ok t) (hs : s.length ≤ maxB) : good (pieceE t s) := good_as _ _ _ (good_str 4 s (i64s 4 (by omega)) hs) (i64s 2 (by omega)) ht
theorem good_opt (t : Int) (s : Byt) (ht : i64ok t) (hs : s.length ≤ maxB) : ∀ k ∈ optE t s, good k := fun k hk => by
  unfold optE at hk
  split at hk
  · cases hk
  · simp only [List.mem_cons, List.not_mem_nil, or_false] at hk; subst hk; exact good_piece t s ht hs
theorem optE_len (t : Int) (s : Byt) : (optE t s).length ≤ 1 := by unfold optE; split <;> simp
theorem good_pieceL {p : Fil} (h : okF p) : ∀ k ∈ pieceL p, good k := fun k hk => by
  obtain ⟨_, _, _, _, h5, h6, h7⟩ := h
  simp only [pieceL, List.mem_append, List.mem_map] at hk
  rcases hk with hk | ⟨s, hs, rfl⟩ | hk
  · exact good_opt 0 _ (i64s 0 (by omega)) h5 k hk
  · exact good_piece 1 s (i64s 1 (by omega)) (h7.2 s hs)
  · exact good_opt 2 _ (i64s 2 (by omega)) h6 k hk
theorem pieceL_len {p : Fil} (h : okF p) : (pieceL p).length ≤ 1048580 := by
  have h1 := optE_len 0 p.init
  have h2 := optE_len 2 p.final
  have h3 := h.2.2.2.2.2.2.1
  simp only [pieceL, List.length_append, List.length_map]; omega
theorem good_pieces {p : Fil} (h : okF p) : good (seqE (pieceL p)) := good_seq _ (len_b (by have := pieceL_len h; omega)) (good_pieceL h)

set_option maxHeartbeats 1000000 in
theorem cm_pieces (p : Fil) (h : okF p) : Pure prog 309 [.agg p.enc] (.agg (encE (seqE (pieceL p)))) := by
  refine Pure.of (fun n _ => by simp only [nm]; exact good_nm (good_pieces h) n) fun S => acalls_of_vc lowm_pieces (by simp) ?_
  have hgl := good_pieceL h
  have hgn := pieceL_len h
  obtain ⟨_, _, _, _, h5, h6, h7⟩ := h
  unfold Bm_pieces
  refine vc_cut (fun fr T => fr 1 = .ptr S.n 0 ∧ fr 2 = .ptr (S.n + 1) 0 ∧ Ext S T ∧ T.n = S.n + 2 ∧ T.get S.n = some (.box 83 p.enc) ∧ T.get (S.n + 1) = some (.box 68 ZE)) ?_ ?_
  · simp -implicitDefEqProofs only [go_sem, reduceIte, Nat.reduceEqDiff, Nat.reduceAdd, Nat.reduceLeDiff, Nat.reduceLT, decide_true, decide_false, vc_cond2, vcGrps_guard2, vcD_val2, vcD_guard2]
    exact ((Ext.refl S).push _).push _
  rintro fr T ⟨f1, f2, hE, hn, g0, g1⟩
  refine vc_cut (fun fr T => fr 1 = .ptr S.n 0 ∧ fr 2 = .ptr (S.n + 1) 0 ∧ fr 3 = .lit (.slice none 0 0) ∧ Ext S T ∧ T.n = S.n + 2 ∧ T.get S.n = some (.box 83 p.enc) ∧ T.get (S.n + 1) = some (.box 68 ZE)) ?_ ?_
  · simp -implicitDefEqProofs only [f1, f2, go_sem, reduceIte, Nat.reduceEqDiff, Nat.reduceAdd, Nat.reduceLeDiff, Nat.reduceLT, decide_true, decide_false, vc_cond2, vcGrps_guard2, vcD_val2, vcD_guard2]
    exact ⟨hE, hn, g0, g1⟩
  clear hE hn g0 g1 f1 f2 fr T
  rintro fr T ⟨f1, f2, f3, hE, hn, g0, g1⟩
  -- init
  refine vc_cut (fun fr T => fr 1 = .ptr S.n 0 ∧ fr 2 = .ptr (S.n + 1) 0 ∧ Ext S T ∧ S.n + 2 ≤ T.n ∧ T.get S.n = some (.box 83 p.enc) ∧ T.get (S.n + 1) = some (.box 68 ZE) ∧ OutL (S.n + 2) T (fr 3) (optE 0 p.init)) ?_ ?_
  · by_cases hi : p.init = []
    · simp -implicitDefEqProofs only [f1, f2, f3, g0, hi, ne_eq, not_true_eq_false, not_false_eq_true, decide_true, decide_false, go_sem, reduceIte, Nat.reduceEqDiff, Nat.reduceAdd, Nat.reduceLeDiff, Nat.reduceLT, decide_true, decide_false, vc_cond2, vcGrps_guard2, vcD_val2, vcD_guard2]
      exact ⟨hE, by omega, g1, .inl ⟨by simp [optE], rfl⟩⟩
    · have q1 : ¬ S.n = T.n := by omega
      have q2 : ¬ S.n + 1 = T.n := by omega
      simp -implicitDefEqProofs only [f1, f2, f3, g0, hi, ne_eq, not_true_eq_false, not_false_eq_true, decide_true, decide_false, go_sem, reduceIte, Nat.reduceEqDiff, Nat.reduceAdd, Nat.reduceLeDiff, Nat.reduceLT, decide_true, decide_false, vc_cond2, vcGrps_guard2, vcD_val2, vcD_guard2]
      refine (cm_str p.init h5).use ?_
      simp -implicitDefEqProofs only [f1, f2, f3, g0, go_sem, reduceIte, Nat.reduceEqDiff, Nat.reduceAdd, Nat.reduceLeDiff, Nat.reduceLT, decide_true, decide_false, vc_cond2, vcGrps_guard2, vcD_val2, vcD_guard2]
      refine (cm_ctx 0 _ (good_str 4 p.init (i64s 4 (by omega)) h5) (i64s 0 (by omega))).use ?_
      simp -implicitDefEqProofs only [f1, f2, f3, g0, q1, q2, List.take_length, go_sem, reduceIte, Nat.reduceEqDiff, Nat.reduceAdd, Nat.reduceLeDiff, Nat.reduceLT, decide_true, decide_false, vc_cond2, vcGrps_guard2, vcD_val2, vcD_guard2]
      refine ⟨by omega, hE.push _, by omega, g1, ?_⟩
      rw [show optE 0 p.init = [ctxE 0 (strE 4 p.init)] by simp [optE, hi, pieceE]]
      exact OutL.one _ (by omega)
  clear hE hn g0 g1 f1 f2 f3 fr T
  rintro fr T ⟨f1, f2, hE, hn, g0, g1, hO⟩
  -- any
  refine vc_cut (fun fr T => fr 1 = .ptr S.n 0 ∧ fr 2 = .ptr (S.n + 1) 0 ∧ Ext S T ∧ S.n + 2 ≤ T.n ∧ T.get S.n = some (.box 83 p.enc) ∧ T.get (S.n + 1) = some (.box 68 ZE) ∧ OutL (S.n + 2) T (fr 3) (optE 0 p.init ++ p.any.map (pieceE 1))) ?_ ?_
  · generalize hb : fr 3 = β at hO
    simp -implicitDefEqProofs only [f1, f2, hb, g0, g1, encT_take, encT_len, go_sem, reduceIte, Nat.reduceEqDiff, Nat.reduceAdd, Nat.reduceLeDiff, Nat.reduceLT, decide_true, decide_false, vc_cond2, vcGrps_guard2, vcD_val2, vcD_guard2]
    intro _
    refine vc_loop (fun n fr T => ∃ i, i + n = p.any.length ∧ fr 1 = .ptr S.n 0 ∧ fr 2 = .ptr (S.n + 1) 0 ∧ fr 17 = .sl 1 (encT p.any ++ p.anyX) p.any.length ∧ fr 18 = .int .i64 p.any.length ∧ fr 19 = .int .i64 i ∧ Ext S T ∧ S.n + 2 ≤ T.n ∧
        T.get S.n = some (.box 83 p.enc) ∧ T.get (S.n + 1) = some (.box 68 ZE) ∧ OutL (S.n + 2) T (fr 3) (optE 0 p.init ++ (p.any.take i).map (pieceE 1))) p.any.length
      ⟨0, by simp, f1, f2, rfl, rfl, rfl, hE, hn, g0, g1, by simp only [List.take_zero, List.map_nil, List.append_nil]; rw [← hb] at hO; exact hO⟩ ?_
    clear hE hn g0 g1 f1 f2 hb hO fr T β
    rintro n fr T ⟨i, hin, f1, f2, f17, f18, f19, hE, hn, g0, g1, hO⟩
    by_cases hlt : i < p.any.length
    · obtain ⟨k, hk⟩ : ∃ k, p.any[i]? = some k := ⟨_, List.getElem?_eq_getElem hlt⟩
      have hat := encT_at p.anyX hk
      have h0 : (0 : Int) ≤ i := by omega
      have hlt' : (i : Int) < p.any.length := by omega
      have h71 := h7.1
      have hi1 : IntKind.i64.wrap ((i : Int) + 1) = i + 1 := w64 _ (by omega) (by omega)
      have hks := h7.2 k (List.mem_of_getElem? hk)
      have hte : optE 0 p.init ++ (p.any.take (i + 1)).map (pieceE 1) = (optE 0 p.init ++ (p.any.take i).map (pieceE 1)) ++ [pieceE 1 k] := by rw [take_snoc hk]; simp
      have hol := optE_len 0 p.init
      obtain ⟨c, hc⟩ : ∃ c, (optE 0 p.init ++ (p.any.take i).map (pieceE 1)).length = c := ⟨_, rfl⟩
      have hcb : c ≤ 1048580 := by simp only [List.length_append, List.length_map, List.length_take] at hc; omega
      have hd : pieceE 1 k = ctxE 1 (strE 4 k) := rfl
      have q1 : ¬ S.n = T.n := by omega
      have q2 : ¬ S.n + 1 = T.n := by omega
      have p1 := cm_str k hks
      have p2 := cm_ctx 1 _ (good_str 4 k (i64s 4 (by omega)) hks) (i64s 1 (by omega))
      rcases hO with ⟨hn0, f3⟩ | ⟨j, hj, hjn, f3, hg⟩
      · simp -implicitDefEqProofs only [f1, f2, f3, f17, f18, f19, hlt, hlt', h0, hat, decide_true, go_sem, reduceIte, Nat.reduceEqDiff, Nat.reduceAdd, Nat.reduceLeDiff, Nat.reduceLT, decide_true, decide_false, vc_cond2, vcGrps_guard2, vcD_val2, vcD_guard2]
        refine p1.use ?_
        simp -implicitDefEqProofs only [f1, f2, f3, f17, f18, f19, go_sem, reduceIte, Nat.reduceEqDiff, Nat.reduceAdd, Nat.reduceLeDiff, Nat.reduceLT, decide_true, decide_false, vc_cond2, vcGrps_guard2, vcD_val2, vcD_guard2]
        refine p2.use ?_
        simp -implicitDefEqProofs only [f1, f2, f3, f17, f18, f19, hi1, q1, q2, List.take_length, go_sem, reduceIte, Nat.reduceEqDiff, Nat.reduceAdd, Nat.reduceLeDiff, Nat.reduceLT, decide_true, decide_false, vc_cond2, vcGrps_guard2, vcD_val2, vcD_guard2]
        refine ⟨by omega, n - 1, by omega, i + 1, by omega, by simp, hE.push _, by omega, g0, g1, ?_⟩
        rw [hte, hn0, hd]
        exact OutL.one _ (by omega)
      · have hj3 : ¬ S.n = j := by omega
        have hj4 : ¬ S.n + 1 = j := by omega
        rw [hc] at f3
        simp -implicitDefEqProofs only [f1, f2, f3, f17, f18, f19, hlt, hlt', h0, hat, decide_true, go_sem, reduceIte, Nat.reduceEqDiff, Nat.reduceAdd, Nat.reduceLeDiff, Nat.reduceLT, decide_true, decide_false, vc_cond2, vcGrps_guard2, vcD_val2, vcD_guard2]
        refine p1.use ?_
        simp -implicitDefEqProofs only [f1, f2, f3, f17, f18, f19, go_sem, reduceIte, Nat.reduceEqDiff, Nat.reduceAdd, Nat.reduceLeDiff, Nat.reduceLT, decide_true, decide_false, vc_cond2, vcGrps_guard2, vcD_val2, vcD_guard2]
        refine p2.use ?_
        simp -implicitDefEqProofs only [f1, f2, f3, f17, f18, f19, hi1, q1, q2, hg, hj3, hj4, encEs_length, hc, List.take_length, go_sem, reduceIte, Nat.reduceEqDiff, Nat.reduceAdd, Nat.reduceLeDiff, Nat.reduceLT, decide_true, decide_false, vc_cond2, vcGrps_guard2, vcD_val2, vcD_guard2]
        refine ⟨by omega, n - 1, by omega, i + 1, by omega, by simp, (hE.set _ _ (by omega)).push _, by omega, g0, g1, ?_⟩
        rw [hte, hd]
        have := OutL.more (m := S.n + 2) (T := T) (ks := optE 0 p.init ++ (p.any.take i).map (pieceE 1)) j (ctxE 1 (strE 4 k)) (by omega)
        rw [hc] at this; exact this
    · have hlt' : ¬ (i : Int) < p.any.length := by omega
      have hi : i = p.any.length := by omega
      rw [hi, List.take_length] at hO
      simp -implicitDefEqProofs only [f1, f2, f17, f18, f19, hlt', decide_false, go_sem, reduceIte, Nat.reduceEqDiff, Nat.reduceAdd, Nat.reduceLeDiff, Nat.reduceLT, decide_true, decide_false, vc_cond2, vcGrps_guard2, vcD_val2, vcD_guard2]
      exact ⟨hE, hn, g0, g1, hO⟩
  clear hE hn g0 g1 f1 f2 hO fr T
  rintro fr T ⟨f1, f2, hE, hn, g0, g1, hO⟩
  -- final
  obtain ⟨c, hc⟩ : ∃ c, (optE 0 p.init ++ p.any.map (pieceE 1)).length = c := ⟨_, rfl⟩
  have hcb : c ≤ 1048580 := by
    have := optE_len 0 p.init
    have := h7.1
    simp only [List.length_append, List.length_map] at hc; omega
  refine vc_cut (fun fr T => fr 2 = .ptr (S.n + 1) 0 ∧ Ext S T ∧ T.get (S.n + 1) = some (.box 68 ZE) ∧ OutL (S.n + 2) T (fr 3) (pieceL p)) ?_ ?_
  · by_cases hi : p.final = []
    · generalize hb : fr 3 = β at hO
      simp -implicitDefEqProofs only [f1, f2, hb, g0, hi, ne_eq, not_true_eq_false, not_false_eq_true, decide_true, decide_false, go_sem, reduceIte, Nat.reduceEqDiff, Nat.reduceAdd, Nat.reduceLeDiff, Nat.reduceLT, decide_true, decide_false, vc_cond2, vcGrps_guard2, vcD_val2, vcD_guard2]
      rw [show pieceL p = optE 0 p.init ++ p.any.map (pieceE 1) by simp [pieceL, optE, hi]]
      exact ⟨hE, g1, hO⟩
    · have q1 : ¬ S.n = T.n := by omega
      have q2 : ¬ S.n + 1 = T.n := by omega
      have hd : pieceL p = (optE 0 p.init ++ p.any.map (pieceE 1)) ++ [ctxE 2 (strE 4 p.final)] := by
        rw [show pieceL p = optE 0 p.init ++ (p.any.map (pieceE 1) ++ optE 2 p.final) from rfl, show optE 2 p.final = [ctxE 2 (strE 4 p.final)] by simp [optE, hi, pieceE], List.append_assoc]
      have p1 := cm_str p.final h6
      have p2 := cm_ctx 2 _ (good_str 4 p.final (i64s 4 (by omega)) h6) (i64s 2 (by omega))
      rcases hO with ⟨hn0, f3⟩ | ⟨j, hj, hjn, f3, hg⟩
      · simp -implicitDefEqProofs only [f1, f2, f3, g0, hi, ne_eq, not_true_eq_false, not_false_eq_true, decide_true, decide_false, go_sem, reduceIte, Nat.reduceEqDiff, Nat.reduceAdd, Nat.reduceLeDiff, Nat.reduceLT, decide_true, decide_false, vc_cond2, vcGrps_guard2, vcD_val2, vcD_guard2]
        refine p1.use ?_
        simp -implicitDefEqProofs only [f1, f2, f3, g0, go_sem, reduceIte, Nat.reduceEqDiff, Nat.reduceAdd, Nat.reduceLeDiff, Nat.reduceLT, decide_true, decide_false, vc_cond2, vcGrps_guard2, vcD_val2, vcD_guard2]
        refine p2.use ?_
        simp -implicitDefEqProofs only [f1, f2, f3, g0, q1, q2, List.take_length, go_sem, reduceIte, Nat.reduceEqDiff, Nat.reduceAdd, Nat.reduceLeDiff, Nat.reduceLT, decide_true, decide_false, vc_cond2, vcGrps_guard2, vcD_val2, vcD_guard2]
        refine ⟨by omega, hE.push _, g1, ?_⟩
        rw [hd, hn0]
        exact OutL.one _ (by omega)
      · have hj3 : ¬ S.n = j := by omega
        have hj4 : ¬ S.n + 1 = j := by omega
        rw [hc] at f3
        simp -implicitDefEqProofs only [f1, f2, f3, g0, hi, ne_eq, not_true_eq_false, not_false_eq_true, decide_true, decide_false, go_sem, reduceIte, Nat.reduceEqDiff, Nat.reduceAdd, Nat.reduceLeDiff, Nat.reduceLT, decide_true, decide_false, vc_cond2, vcGrps_guard2, vcD_val2, vcD_guard2]
        refine p1.use ?_
        simp -implicitDefEqProofs only [f1, f2, f3, g0, go_sem, reduceIte, Nat.reduceEqDiff, Nat.reduceAdd, Nat.reduceLeDiff, Nat.reduceLT, decide_true, decide_false, vc_cond2, vcGrps_guard2, vcD_val2, vcD_guard2]
        refine p2.use ?_
        simp -implicitDefEqProofs only [f1, f2, f3, g0, q1, q2, hg, hj3, hj4, encEs_length, hc, List.take_length, go_sem, reduceIte, Nat.reduceEqDiff, Nat.reduceAdd, Nat.reduceLeDiff, Nat.reduceLT, decide_true, decide_false, vc_cond2, vcGrps_guard2, vcD_val2, vcD_guard2]
        refine ⟨by omega, (hE.set _ _ (by omega)).push _, g1, ?_⟩
        rw [hd]
        have := OutL.more (m := S.n + 2) (T := T) (ks := optE 0 p.init ++ p.any.map (pieceE 1)) j (ctxE 2 (strE 4 p.final)) (by omega)
        rw [hc] at this; exact this
  clear hE hn g0 g1 f1 f2 hO fr T
  rintro fr T ⟨f2, hE, g1, hO⟩
  generalize h3 : fr 3 = β at hO
  simp -implicitDefEqProofs only [f2, h3, g1, go_sem, reduceIte, Nat.reduceEqDiff, Nat.reduceAdd, Nat.reduceLeDiff, Nat.reduceLT, decide_true, decide_false, vc_cond2, vcGrps_guard2, vcD_val2, vcD_guard2]
  refine hO.give fun T' hn' hsame hE' => ?_
  have g1' : T'.get (S.n + 1) = some (.box 68 ZE) := by rw [hsame _ (by omega)]; exact g1
  refine (cb_Seq (pieceL p) (len_b (by omega)) hgl).use ?_
  simp -implicitDefEqProofs only [f2, g1', go_sem, reduceIte, Nat.reduceEqDiff, Nat.reduceAdd, Nat.reduceLeDiff, Nat.reduceLT, decide_true, decide_false, vc_cond2, vcGrps_guard2, vcD_val2, vcD_guard2]
  exact (hE' S (by omega) hE).set _ _ (by omega)
end Go.Proofs.YtajbeippbabhhaaGreatDoor.Eng

namespace Go.Proofs.YtajbeippbabhhaaGreatDoor.Eng
open Go Go.Proofs.Tryz

/-! ## A list of one's own that grows -/
def OutO (m : Nat) (T : Store) (β : AV) (ks : List Elem) : Prop := ∃ k, m ≤ k ∧ k < T.n ∧ β = .own k 0 ks.length ∧ T.get k = some (.row 68 5 0 (encEs ks))
theorem OutO.l {m : Nat} {T : Store} {β : AV} {ks : List Elem} (h : OutO m T β ks) : OutL m T β ks := .inr h
theorem OutO.mk {m : Nat} {T : Store} (ks : List Elem) (n : Nat) (hn : ks.length = n) (hm : m ≤ T.n) : OutO m (T.push (.row 68 5 0 (encEs ks))) (.own T.n 0 n) ks :=
  ⟨T.n, hm, by rw [Store.n_push]; omega, by rw [hn], by rw [Store.get_push_same]⟩
theorem OutO.more {m : Nat} {T : Store} {ks : List Elem} (j : Nat) (e : Elem) (hm : m ≤ T.n) : OutO m ((T.set j none).push (.row 68 5 0 (encEs ks ++ [encE e]))) (.own T.n 0 (ks.length + 1)) (ks ++ [e]) :=
  ⟨T.n, hm, by rw [Store.n_push, Store.n_set]; omega, by simp, by rw [← Store.n_set T j none, Store.get_push_same, encEs_one, encEs_apps]⟩

/-! ## A response's elements -/
def optH (b : Bool) (t : Int) (s : Byt) : List Elem := if b then [pieceE t s] else []
def answerL (m : Msg) : List Elem := [strE 10 (sgn m.code), strE 4 m.matched, strE 4 m.text] ++ (optE 10 m.oid ++ optH m.has 11 m.value)
def okStr (m : Msg) : Prop := m.dn.length ≤ maxB ∧ m.secret.length ≤ maxB ∧ m.newRdn.length ≤ maxB ∧ m.newSup.length ≤ maxB ∧ m.typ.length ≤ maxB ∧ m.value.length ≤ maxB ∧ m.oid.length ≤ maxB ∧ m.matched.length ≤ maxB ∧ m.text.length ≤ maxB
def okInt (m : Msg) : Prop := i64ok m.id ∧ i64ok m.op ∧ i64ok m.version ∧ i64ok m.scope ∧ i64ok m.deref ∧ i64ok m.size ∧ i64ok m.time ∧ i64ok m.target ∧ i64ok m.code
theorem good_optH (b : Bool) (t : Int) (s : Byt) (ht : i64ok t) (hs : s.length ≤ maxB) : ∀ k ∈ optH b t s, good k := fun k hk => by
  unfold optH at hk
  split at hk
  · simp only [List.mem_cons, List.not_mem_nil, or_false] at hk; subst hk; exact good_piece t s ht hs
  · cases hk
theorem optH_len (b : Bool) (t : Int) (s : Byt) : (optH b t s).length ≤ 1 := by unfold optH; split <;> simp
theorem answerL_len (m : Msg) : (answerL m).length ≤ 5 := by
  have h1 := optE_len 10 m.oid
  have h2 := optH_len m.has 11 m.value
  simp only [answerL, List.length_append, List.length_cons, List.length_nil]; omega
theorem good_answer {m : Msg} (hs : okStr m) : ∀ k ∈ answerL m, good k := fun k hk => by
  obtain ⟨s1, s2, s3, s4, s5, s6, s7, s8, s9⟩ := hs
  simp only [answerL, List.mem_append, List.mem_cons, List.not_mem_nil, or_false] at hk
  rcases hk with (rfl | rfl | rfl) | hk | hk
  · exact good_int 10 _ (i64s 10 (by omega))
  · exact good_str 4 _ (i64s 4 (by omega)) s8
  · exact good_str 4 _ (i64s 4 (by omega)) s9
  · exact good_opt 10 _ (i64s 10 (by omega)) s7 k hk
  · exact good_optH _ 11 _ (i64s 11 (by omega)) s6 k hk

set_option maxHeartbeats 1000000 in
theorem cm_answer (m : Msg) (hs : okStr m) (hi : okInt m) : Pure prog 263 [.agg m.enc] (lstV (answerL m) []) := by
  refine Pure.outA (fun n _ => by simp only [nm, lstV, List.append_nil]; exact goods_nm _ (good_answer hs) n) fun S => acalls_of_vc lowm_answer (by simp) ?_
  obtain ⟨s1, s2, s3, s4, s5, s6, s7, s8, s9⟩ := hs
  obtain ⟨i1, i2, i3, i4, i5, i6, i7, i8, i9⟩ := hi
  unfold Bm_answer
  refine vc_cut (fun fr T => fr 1 = .ptr S.n 0 ∧ Ext S T ∧ T.n = S.n + 1 ∧ T.get S.n = some (.box 28 m.mv.enc)) ?_ ?_
  · simp -implicitDefEqProofs only [go_sem, reduceIte, Nat.reduceEqDiff, Nat.reduceAdd, Nat.reduceLeDiff, Nat.reduceLT, decide_true, decide_false, vc_cond2, vcGrps_guard2, vcD_val2, vcD_guard2]
    exact (Ext.refl S).push _
  rintro fr T ⟨f1, hE, hn, g0⟩
  refine vc_cut (fun fr T => fr 1 = .ptr S.n 0 ∧ Ext S T ∧ S.n + 1 ≤ T.n ∧ T.get S.n = some (.box 28 m.mv.enc) ∧ OutO (S.n + 1) T (fr 3) [strE 10 (sgn m.code), strE 4 m.matched, strE 4 m.text]) ?_ ?_
  · have q1 : ¬ S.n = T.n := by omega
    simp -implicitDefEqProofs only [f1, g0, q1, go_sem, reduceIte, Nat.reduceEqDiff, Nat.reduceAdd, Nat.reduceLeDiff, Nat.reduceLT, decide_true, decide_false, vc_cond2, vcGrps_guard2, vcD_val2, vcD_guard2]
    refine vcDO_by _ _ _ _ _ _ _ _ _ _ _ (c20 10 m.code i9) ?_
    simp -implicitDefEqProofs only [f1, g0, q1, go_sem, reduceIte, Nat.reduceEqDiff, Nat.reduceAdd, Nat.reduceLeDiff, Nat.reduceLT, decide_true, decide_false, vc_cond2, vcGrps_guard2, vcD_val2, vcD_guard2]
    refine vcDO_by _ _ _ _ _ _ _ _ _ _ _ (cm_str m.matched s8) ?_
    simp -implicitDefEqProofs only [f1, g0, q1, go_sem, reduceIte, Nat.reduceEqDiff, Nat.reduceAdd, Nat.reduceLeDiff, Nat.reduceLT, decide_true, decide_false, vc_cond2, vcGrps_guard2, vcD_val2, vcD_guard2]
    refine vcDO_by _ _ _ _ _ _ _ _ _ _ _ (cm_str m.text s9) ?_
    simp -implicitDefEqProofs only [f1, g0, q1, go_sem, reduceIte, Nat.reduceEqDiff, Nat.reduceAdd, Nat.reduceLeDiff, Nat.reduceLT, decide_true, decide_false, vc_cond2, vcGrps_guard2, vcD_val2, vcD_guard2]
    exact ⟨hE.push _, by omega, OutO.mk [strE 10 (sgn m.code), strE 4 m.matched, strE 4 m.text] 3 rfl (by omega)⟩
  clear hE hn g0 f1 fr T
  rintro fr T ⟨f1, hE, hn, g0, hO⟩
  refine vc_cut (fun fr T => fr 1 = .ptr S.n 0 ∧ Ext S T ∧ S.n + 1 ≤ T.n ∧ T.get S.n = some (.box 28 m.mv.enc) ∧ OutO (S.n + 1) T (fr 3) ([strE 10 (sgn m.code), strE 4 m.matched, strE 4 m.text] ++ optE 10 m.oid)) ?_ ?_
  · by_cases ho : m.oid = []
    · generalize hb : fr 3 = β at hO
      simp -implicitDefEqProofs only [f1, hb, g0, ho, ne_eq, not_true_eq_false, not_false_eq_true, decide_true, decide_false, go_sem, reduceIte, Nat.reduceEqDiff, Nat.reduceAdd, Nat.reduceLeDiff, Nat.reduceLT, decide_true, decide_false, vc_cond2, vcGrps_guard2, vcD_val2, vcD_guard2]
      exact ⟨hE, by omega, by rw [show optE 10 [] = [] from rfl, List.append_nil]; exact hO⟩
    · obtain ⟨j, hj, hjn, f3, hg⟩ := hO
      have q1 : ¬ S.n = T.n := by omega
      have q2 : ¬ S.n = j := by omega
      simp -implicitDefEqProofs only [f1, f3, g0, ho, ne_eq, not_true_eq_false, not_false_eq_true, decide_true, decide_false, go_sem, reduceIte, Nat.reduceEqDiff, Nat.reduceAdd, Nat.reduceLeDiff, Nat.reduceLT, decide_true, decide_false, vc_cond2, vcGrps_guard2, vcD_val2, vcD_guard2]
      refine (cm_str m.oid s7).use ?_
      simp -implicitDefEqProofs only [f1, f3, g0, go_sem, reduceIte, Nat.reduceEqDiff, Nat.reduceAdd, Nat.reduceLeDiff, Nat.reduceLT, decide_true, decide_false, vc_cond2, vcGrps_guard2, vcD_val2, vcD_guard2]
      refine (cm_ctx 10 _ (good_str 4 m.oid (i64s 4 (by omega)) s7) (i64s 10 (by omega))).use ?_
      simp -implicitDefEqProofs only [f1, f3, g0, hg, q1, q2, encEs_length, List.take_length, go_sem, reduceIte, Nat.reduceEqDiff, Nat.reduceAdd, Nat.reduceLeDiff, Nat.reduceLT, decide_true, decide_false, vc_cond2, vcGrps_guard2, vcD_val2, vcD_guard2]
      refine ⟨by decide, (hE.set _ _ (by omega)).push _, by omega, ?_⟩
      rw [show optE 10 m.oid = [ctxE 10 (strE 4 m.oid)] by simp [optE, ho, pieceE]]
      exact OutO.more (ks := [strE 10 (sgn m.code), strE 4 m.matched, strE 4 m.text]) j (ctxE 10 (strE 4 m.oid)) (by omega)
  clear hE hn g0 f1 hO fr T
  rintro fr T ⟨f1, hE, hn, g0, hO⟩
  obtain ⟨c, hc⟩ : ∃ c, ([strE 10 (sgn m.code), strE 4 m.matched, strE 4 m.text] ++ optE 10 m.oid).length = c := ⟨_, rfl⟩
  have hcb : c ≤ 4 := by
    have := optE_len 10 m.oid
    simp only [List.length_append, List.length_cons, List.length_nil] at hc; omega
  refine vc_cut (fun fr T => Ext S T ∧ OutO (S.n + 1) T (fr 3) (answerL m)) ?_ ?_
  · cases hh : m.has with
    | false =>
      generalize hb : fr 3 = β at hO
      simp -implicitDefEqProofs only [f1, hb, g0, hh, go_sem, reduceIte, Nat.reduceEqDiff, Nat.reduceAdd, Nat.reduceLeDiff, Nat.reduceLT, decide_true, decide_false, vc_cond2, vcGrps_guard2, vcD_val2, vcD_guard2]
      refine ⟨hE, ?_⟩
      rw [show answerL m = [strE 10 (sgn m.code), strE 4 m.matched, strE 4 m.text] ++ optE 10 m.oid by simp [answerL, optH, hh]]
      exact hO
    | true =>
      obtain ⟨j, hj, hjn, f3, hg⟩ := hO
      have q1 : ¬ S.n = T.n := by omega
      have q2 : ¬ S.n = j := by omega
      rw [hc] at f3
      simp -implicitDefEqProofs only [f1, f3, g0, hh, go_sem, reduceIte, Nat.reduceEqDiff, Nat.reduceAdd, Nat.reduceLeDiff, Nat.reduceLT, decide_true, decide_false, vc_cond2, vcGrps_guard2, vcD_val2, vcD_guard2]
      refine (cm_str m.value s6).use ?_
      simp -implicitDefEqProofs only [f1, f3, g0, go_sem, reduceIte, Nat.reduceEqDiff, Nat.reduceAdd, Nat.reduceLeDiff, Nat.reduceLT, decide_true, decide_false, vc_cond2, vcGrps_guard2, vcD_val2, vcD_guard2]
      refine (cm_ctx 11 _ (good_str 4 m.value (i64s 4 (by omega)) s6) (i64s 11 (by omega))).use ?_
      simp -implicitDefEqProofs only [f1, f3, g0, hg, q1, q2, encEs_length, hc, List.take_length, go_sem, reduceIte, Nat.reduceEqDiff, Nat.reduceAdd, Nat.reduceLeDiff, Nat.reduceLT, decide_true, decide_false, vc_cond2, vcGrps_guard2, vcD_val2, vcD_guard2]
      refine ⟨by omega, (hE.set _ _ (by omega)).push _, ?_⟩
      rw [show answerL m = ([strE 10 (sgn m.code), strE 4 m.matched, strE 4 m.text] ++ optE 10 m.oid) ++ [ctxE 11 (strE 4 m.value)] by simp [answerL, optH, hh, pieceE]]
      have := OutO.more (m := S.n + 1) (T := T) (ks := [strE 10 (sgn m.code), strE 4 m.matched, strE 4 m.text] ++ optE 10 m.oid) j (ctxE 11 (strE 4 m.value)) (by omega)
      rw [hc] at this; exact this
  clear hE hn g0 f1 hO fr T
  rintro fr T ⟨hE, hO⟩
  generalize h3 : fr 3 = β at hO
  simp -implicitDefEqProofs only [h3, go_sem, reduceIte, Nat.reduceEqDiff, Nat.reduceAdd, Nat.reduceLeDiff, Nat.reduceLT, decide_true, decide_false, vc_cond2, vcGrps_guard2, vcD_val2, vcD_guard2]
  exact hO.l.out (by omega) hE
end Go.Proofs.YtajbeippbabhhaaGreatDoor.Eng

namespace Go.Proofs.YtajbeippbabhhaaGreatDoor.Eng
open Go Go.Proofs.Tryz

theorem backE {P : Program} {f : FuncId} {args : List AV} {S : Store} {v : AV} (hv : ∀ n, nm n v) (h : WF S → ACalls P f args S fun r S' => r = .ret v ∧ Ext S S') : ACalls P f args S fun r S' => r = .ret v ∧ S' = S :=
  ACalls.wf fun hwf _ => ACalls.back (h hwf) fun r S' ⟨h1, h2⟩ => ⟨h2, by subst h1; exact hv _, h1, rfl⟩

/-! ## The parts of op -/
theorem cm_op1 (ks : List Elem) : Pure prog 250 [lstV ks []] (.fn (.func 251) [.rop [lstV ks []] 0]) := by
  refine Pure.ofBox (fun n h => by simpa only [nm, nmL, and_true] using h) fun S => acalls_of_vc lowm_op_1 (by simp) ?_
  have hx := (Ext.refl S).push (.box 66 [lstV ks []])
  have hc : cellsOf (lstV ks []) = some [lstV ks []] := rfl
  generalize hl : lstV ks [] = β at *
  simp -implicitDefEqProofs only [Bm_op_1, go_sem, reduceIte, Nat.reduceEqDiff, Nat.reduceAdd, Nat.reduceLeDiff, Nat.reduceLT, decide_true, decide_false, vc_cond2, vcGrps_guard2, vcD_val2, vcD_guard2]
  rw [← hl] at hc ⊢
  simp -implicitDefEqProofs only [lstV, go_sem, reduceIte, Nat.reduceEqDiff, Nat.reduceAdd, Nat.reduceLeDiff, Nat.reduceLT, decide_true, decide_false, vc_cond2, vcGrps_guard2, vcD_val2, vcD_guard2]
  refine ⟨?_, S.n, _, _, _, Nat.le_refl _, rfl, Store.get_push_same _ _, ?_⟩
  · exact (Ext.refl S).push _
  · simp [bz, bzL]
theorem cm_op11 (ks : List Elem) (hl : ks.length * 64 ≤ maxB) (h : ∀ x ∈ ks, good x) : Pure prog 251 [.rop [lstV ks []] 0] (.agg (encE (seqE ks))) := by
  refine Pure.of (fun n _ => by simp only [nm]; exact good_nm (good_seq ks hl h) n) fun S => acalls_of_vc lowm_op_1_1 (by simp) ?_
  have hx := (Ext.refl S).push
  simp -implicitDefEqProofs only [Bm_op_1_1, go_sem, reduceIte, Nat.reduceEqDiff, Nat.reduceAdd, Nat.reduceLeDiff, Nat.reduceLT, decide_true, decide_false, vc_cond2, vcGrps_guard2, vcD_val2, vcD_guard2]
  refine (cb_Seq ks hl h).use ?_
  simp -implicitDefEqProofs only [go_sem, reduceIte, Nat.reduceEqDiff, Nat.reduceAdd, Nat.reduceLeDiff, Nat.reduceLT, decide_true, decide_false, vc_cond2, vcGrps_guard2, vcD_val2, vcD_guard2]
  exact (hx _).set _ _ (Nat.le_refl _)

def saslE (m : Msg) : Elem := if m.sasl then ctxE 3 (seqE [strE 4 m.secret]) else ctxE 0 (strE 4 m.secret)
def bindE (m : Msg) : Elem := seqE [strE 2 (sgn m.version), strE 4 m.dn, saslE m]
theorem good1 {a : Elem} (ha : good a) : ∀ x ∈ [a], good x := fun x hx => by
  simp only [List.mem_cons, List.not_mem_nil, or_false] at hx
  subst hx; exact ha
theorem good3 {a b c : Elem} (ha : good a) (hb : good b) (hc : good c) : ∀ x ∈ [a, b, c], good x := fun x hx => by
  simp only [List.mem_cons, List.not_mem_nil, or_false] at hx
  rcases hx with rfl | rfl | rfl
  · exact ha
  · exact hb
  · exact hc
theorem few_b (n : Nat) (h : n ≤ 10) : n * 64 ≤ maxB := by unfold maxB; omega
theorem gs4 {s : Byt} (h : s.length ≤ maxB) : good (strE 4 s) := good_str 4 s (i64s 4 (by omega)) h
theorem gi (t v : Int) (h : -1000 ≤ t ∧ t ≤ 1000) : good (strE t (sgn v)) := good_int t v (i64s t h)
theorem gb (t : Int) (b : Bool) (h : -1000 ≤ t ∧ t ≤ 1000) : good (strE t [if b then 255 else 0]) := good_bool t b (i64s t h)
theorem gc (t : Int) {e : Elem} (he : good e) (h : -1000 ≤ t ∧ t ≤ 1000) : good (ctxE t e) := good_as e 2 t he (i64s 2 (by omega)) (i64s t h)
theorem good_sasl {m : Msg} (hs : okStr m) : good (saslE m) := by
  obtain ⟨s1, s2, _⟩ := hs
  unfold saslE
  split
  · exact gc 3 (good_seq _ (few_b _ (by simp)) (good1 (gs4 s2))) (by omega)
  · exact gc 0 (gs4 s2) (by omega)
theorem good_bind {m : Msg} (hs : okStr m) : good (bindE m) := good_seq _ (few_b _ (by simp)) (good3 (gi 2 _ (by omega)) (gs4 hs.1) (good_sasl hs))

theorem cm_op2 (m : Msg) (hs : okStr m) (hi : okInt m) (S : Store) (l : Nat) (hg : S.get l = some (.box 28 m.mv.enc)) : ACalls prog 252 [.ptr l 0] S fun r S' => r = .ret (.agg (encE (bindE m))) ∧ S' = S := by
  refine backE (fun n => by simp only [nm]; exact good_nm (good_bind hs) n) fun hwf => acalls_of_vc lowm_op_2 (by simp) ?_
  have hlt := (hwf l _ hg).1
  have hgs := good_sasl hs
  obtain ⟨s1, s2, s3, s4, s5, s6, s7, s8, s9⟩ := hs
  obtain ⟨i1, i2, i3, i4, i5, i6, i7, i8, i9⟩ := hi
  have q0 : ¬ l = S.n := by omega
  have q1 : ¬ l = S.n + 1 := by omega
  unfold Bm_op_2
  refine vc_cut (fun fr T => fr 0 = .ptr l 0 ∧ fr 1 = .ptr S.n 0 ∧ Ext S T ∧ T.n = S.n + 1 ∧ T.get l = some (.box 28 m.mv.enc) ∧ T.get S.n = some (.box 68 ZE)) ?_ ?_
  · simp -implicitDefEqProofs only [hg, q0, go_sem, reduceIte, Nat.reduceEqDiff, Nat.reduceAdd, Nat.reduceLeDiff, Nat.reduceLT, decide_true, decide_false, vc_cond2, vcGrps_guard2, vcD_val2, vcD_guard2]
    exact (Ext.refl S).push _
  rintro fr T ⟨f0, f1, hE, hn, g0, g1⟩
  refine vc_cut (fun fr T => fr 0 = .ptr l 0 ∧ fr 1 = .ptr S.n 0 ∧ fr 2 = .ptr (S.n + 1) 0 ∧ Ext S T ∧ T.n = S.n + 2 ∧ T.get l = some (.box 28 m.mv.enc) ∧ T.get S.n = some (.box 68 ZE) ∧ T.get (S.n + 1) = some (.box 68 (encE (ctxE 0 (strE 4 m.secret))))) ?_ ?_
  · simp -implicitDefEqProofs only [f0, f1, hn, g0, g1, q0, q1, go_sem, reduceIte, Nat.reduceEqDiff, Nat.reduceAdd, Nat.reduceLeDiff, Nat.reduceLT, decide_true, decide_false, vc_cond2, vcGrps_guard2, vcD_val2, vcD_guard2]
    refine (cm_str m.secret s2).use ?_
    simp -implicitDefEqProofs only [f0, f1, hn, g0, g1, q0, q1, go_sem, reduceIte, Nat.reduceEqDiff, Nat.reduceAdd, Nat.reduceLeDiff, Nat.reduceLT, decide_true, decide_false, vc_cond2, vcGrps_guard2, vcD_val2, vcD_guard2]
    refine (cm_ctx 0 _ (gs4 s2) (i64s 0 (by omega))).use ?_
    simp -implicitDefEqProofs only [f0, f1, hn, g0, g1, q0, q1, go_sem, reduceIte, Nat.reduceEqDiff, Nat.reduceAdd, Nat.reduceLeDiff, Nat.reduceLT, decide_true, decide_false, vc_cond2, vcGrps_guard2, vcD_val2, vcD_guard2]
    exact (hE.push _).set _ _ (by omega)
  clear hE hn g0 g1 f0 f1 fr T
  rintro fr T ⟨f0, f1, f2, hE, hn, g0, g1, g2⟩
  refine vc_cut (fun fr T => fr 0 = .ptr l 0 ∧ fr 1 = .ptr S.n 0 ∧ fr 2 = .ptr (S.n + 1) 0 ∧ Ext S T ∧ T.get l = some (.box 28 m.mv.enc) ∧ T.get S.n = some (.box 68 ZE) ∧ T.get (S.n + 1) = some (.box 68 (encE (saslE m)))) ?_ ?_
  · cases hh : m.sasl with
    | false =>
      simp -implicitDefEqProofs only [f0, f1, f2, g0, g1, g2, hh, go_sem, reduceIte, Nat.reduceEqDiff, Nat.reduceAdd, Nat.reduceLeDiff, Nat.reduceLT, decide_true, decide_false, vc_cond2, vcGrps_guard2, vcD_val2, vcD_guard2]
      exact ⟨hE, by simp [saslE, hh]⟩
    | true =>
      simp -implicitDefEqProofs only [f0, f1, f2, g0, g1, g2, hh, go_sem, reduceIte, Nat.reduceEqDiff, Nat.reduceAdd, Nat.reduceLeDiff, Nat.reduceLT, decide_true, decide_false, vc_cond2, vcGrps_guard2, vcD_val2, vcD_guard2]
      refine (cm_str m.secret s2).use ?_
      simp -implicitDefEqProofs only [f0, f1, f2, g0, g1, g2, go_sem, reduceIte, Nat.reduceEqDiff, Nat.reduceAdd, Nat.reduceLeDiff, Nat.reduceLT, decide_true, decide_false, vc_cond2, vcGrps_guard2, vcD_val2, vcD_guard2]
      refine (cb_Seq [strE 4 m.secret] (few_b _ (by simp)) (good1 (gs4 s2))).use ?_
      simp -implicitDefEqProofs only [f0, f1, f2, g0, g1, g2, go_sem, reduceIte, Nat.reduceEqDiff, Nat.reduceAdd, Nat.reduceLeDiff, Nat.reduceLT, decide_true, decide_false, vc_cond2, vcGrps_guard2, vcD_val2, vcD_guard2]
      refine (cm_ctx 3 _ (good_seq _ (few_b _ (by simp)) (good1 (gs4 s2))) (i64s 3 (by omega))).use ?_
      simp -implicitDefEqProofs only [f0, f1, f2, g0, g1, g2, q0, q1, go_sem, reduceIte, Nat.reduceEqDiff, Nat.reduceAdd, Nat.reduceLeDiff, Nat.reduceLT, decide_true, decide_false, vc_cond2, vcGrps_guard2, vcD_val2, vcD_guard2]
      exact ⟨hE.set _ _ (by omega), by simp [saslE, hh]⟩
  clear hE hn g0 g1 g2 f0 f1 f2 fr T
  rintro fr T ⟨f0, f1, f2, hE, g0, g1, g2⟩
  simp -implicitDefEqProofs only [f0, f1, f2, g0, g1, g2, go_sem, reduceIte, Nat.reduceEqDiff, Nat.reduceAdd, Nat.reduceLeDiff, Nat.reduceLT, decide_true, decide_false, vc_cond2, vcGrps_guard2, vcD_val2, vcD_guard2]
  refine vcDO_by _ _ _ _ _ _ _ _ _ _ _ (c20 2 m.version i3) ?_
  simp -implicitDefEqProofs only [f0, f1, f2, g0, g1, g2, go_sem, reduceIte, Nat.reduceEqDiff, Nat.reduceAdd, Nat.reduceLeDiff, Nat.reduceLT, decide_true, decide_false, vc_cond2, vcGrps_guard2, vcD_val2, vcD_guard2]
  refine vcDO_by _ _ _ _ _ _ _ _ _ _ _ (cm_str m.dn s1) ?_
  simp -implicitDefEqProofs only [f0, f1, f2, g0, g1, g2, go_sem, reduceIte, Nat.reduceEqDiff, Nat.reduceAdd, Nat.reduceLeDiff, Nat.reduceLT, decide_true, decide_false, vc_cond2, vcGrps_guard2, vcD_val2, vcD_guard2]
  refine vcDO_by _ _ _ _ _ _ _ _ _ _ _ (cb_Seq [strE 2 (sgn m.version), strE 4 m.dn, saslE m] (few_b _ (by simp)) (good3 (gi 2 _ (by omega)) (gs4 s1) hgs)) ?_
  simp -implicitDefEqProofs only [f0, f1, f2, g0, g1, g2, go_sem, reduceIte, Nat.reduceEqDiff, Nat.reduceAdd, Nat.reduceLeDiff, Nat.reduceLT, decide_true, decide_false, vc_cond2, vcGrps_guard2, vcD_val2, vcD_guard2]
  exact ⟨rfl, hE.set _ _ (by omega)⟩
end Go.Proofs.YtajbeippbabhhaaGreatDoor.Eng

namespace Go.Proofs.YtajbeippbabhhaaGreatDoor.Eng
open Go Go.Proofs.Tryz

theorem cm_op3 : Pure prog 253 [] (.agg (encE (strE 4 []))) := by
  refine Pure.of (fun n _ => by simp only [nm]; exact good_nm (gs4 (by simp)) n) fun S => acalls_of_vc lowm_op_3 (by simp) ?_
  have hx := (Ext.refl S).push
  simp -implicitDefEqProofs only [Bm_op_3, go_sem, reduceIte, Nat.reduceEqDiff, Nat.reduceAdd, Nat.reduceLeDiff, Nat.reduceLT, decide_true, decide_false, vc_cond2, vcGrps_guard2, vcD_val2, vcD_guard2]
  refine (cm_str [] (by simp)).use ?_
  simp -implicitDefEqProofs only [go_sem, reduceIte, Nat.reduceEqDiff, Nat.reduceAdd, Nat.reduceLeDiff, Nat.reduceLT, decide_true, decide_false, vc_cond2, vcGrps_guard2, vcD_val2, vcD_guard2]
  exact (hx _).set _ _ (Nat.le_refl _)
theorem cm_op5 (m : Msg) (hs : okStr m) (S : Store) (l : Nat) (hg : S.get l = some (.box 28 m.mv.enc)) : ACalls prog 259 [.ptr l 0] S fun r S' => r = .ret (.agg (encE (strE 4 m.dn))) ∧ S' = S := by
  refine backE (fun n => by simp only [nm]; exact good_nm (gs4 hs.1) n) fun hwf => acalls_of_vc lowm_op_5 (by simp) ?_
  have hlt := (hwf l _ hg).1
  have q0 : ¬ l = S.n := by omega
  have hx := (Ext.refl S).push
  simp -implicitDefEqProofs only [Bm_op_5, hg, q0, go_sem, reduceIte, Nat.reduceEqDiff, Nat.reduceAdd, Nat.reduceLeDiff, Nat.reduceLT, decide_true, decide_false, vc_cond2, vcGrps_guard2, vcD_val2, vcD_guard2]
  refine (cm_str m.dn hs.1).use ?_
  simp -implicitDefEqProofs only [go_sem, reduceIte, Nat.reduceEqDiff, Nat.reduceAdd, Nat.reduceLeDiff, Nat.reduceLT, decide_true, decide_false, vc_cond2, vcGrps_guard2, vcD_val2, vcD_guard2]
  exact (hx _).set _ _ (Nat.le_refl _)
theorem cm_op7 (m : Msg) (hi : okInt m) (S : Store) (l : Nat) (hg : S.get l = some (.box 28 m.mv.enc)) : ACalls prog 261 [.ptr l 0] S fun r S' => r = .ret (.agg (encE (strE 2 (sgn m.target)))) ∧ S' = S := by
  refine backE (fun n => by simp only [nm]; exact good_nm (gi 2 _ (by omega)) n) fun hwf => acalls_of_vc lowm_op_7 (by simp) ?_
  have hlt := (hwf l _ hg).1
  have q0 : ¬ l = S.n := by omega
  have hx := (Ext.refl S).push
  simp -implicitDefEqProofs only [Bm_op_7, hg, q0, go_sem, reduceIte, Nat.reduceEqDiff, Nat.reduceAdd, Nat.reduceLeDiff, Nat.reduceLT, decide_true, decide_false, vc_cond2, vcGrps_guard2, vcD_val2, vcD_guard2]
  refine (c20 2 m.target hi.2.2.2.2.2.2.2.1).use ?_
  simp -implicitDefEqProofs only [go_sem, reduceIte, Nat.reduceEqDiff, Nat.reduceAdd, Nat.reduceLeDiff, Nat.reduceLT, decide_true, decide_false, vc_cond2, vcGrps_guard2, vcD_val2, vcD_guard2]
  exact (hx _).set _ _ (Nat.le_refl _)

def moveB (m : Msg) : List Elem := [strE 4 m.dn, strE 4 m.newRdn, strE 1 [if m.deleteOld then 255 else 0]]
def moveL (m : Msg) : List Elem := moveB m ++ optH m.hasSup 0 m.newSup
theorem good_move {m : Msg} (hs : okStr m) : ∀ k ∈ moveL m, good k := fun k hk => by
  obtain ⟨s1, s2, s3, s4, s5, s6, s7, s8, s9⟩ := hs
  simp only [moveL, moveB, List.mem_append] at hk
  rcases hk with hk | hk
  · exact good3 (gs4 s1) (gs4 s3) (gb 1 _ (by omega)) k hk
  · exact good_optH _ 0 _ (i64s 0 (by omega)) s4 k hk
theorem moveL_len (m : Msg) : (moveL m).length ≤ 4 := by
  have h2 := optH_len m.hasSup 0 m.newSup
  simp only [moveL, moveB, List.length_append, List.length_cons, List.length_nil]; omega
set_option maxHeartbeats 1000000 in
theorem cm_op6 (m : Msg) (hs : okStr m) (S : Store) (l : Nat) (hg : S.get l = some (.box 28 m.mv.enc)) : ACalls prog 260 [.ptr l 0] S fun r S' => r = .ret (.agg (encE (seqE (moveL m)))) ∧ S' = S := by
  refine backE (fun n => by simp only [nm]; exact good_nm (good_seq _ (few_b _ (by have := moveL_len m; omega)) (good_move hs)) n) fun hwf => acalls_of_vc lowm_op_6 (by simp) ?_
  have hlt := (hwf l _ hg).1
  have hgm := good_move hs
  obtain ⟨s1, s2, s3, s4, s5, s6, s7, s8, s9⟩ := hs
  have q0 : ¬ l = S.n := by omega
  unfold Bm_op_6
  refine vc_cut (fun fr T => fr 0 = .ptr l 0 ∧ fr 1 = .ptr S.n 0 ∧ Ext S T ∧ T.n = S.n + 1 ∧ T.get l = some (.box 28 m.mv.enc) ∧ T.get S.n = some (.box 68 ZE)) ?_ ?_
  · simp -implicitDefEqProofs only [hg, q0, go_sem, reduceIte, Nat.reduceEqDiff, Nat.reduceAdd, Nat.reduceLeDiff, Nat.reduceLT, decide_true, decide_false, vc_cond2, vcGrps_guard2, vcD_val2, vcD_guard2]
    exact (Ext.refl S).push _
  rintro fr T ⟨f0, f1, hE, hn, g0, g1⟩
  refine vc_cut (fun fr T => fr 0 = .ptr l 0 ∧ fr 1 = .ptr S.n 0 ∧ Ext S T ∧ S.n + 1 ≤ T.n ∧ T.get l = some (.box 28 m.mv.enc) ∧ T.get S.n = some (.box 68 ZE) ∧ OutO (S.n + 1) T (fr 2) (moveB m)) ?_ ?_
  · have q1 : ¬ l = T.n := by omega
    have q2 : ¬ S.n = T.n := by omega
    simp -implicitDefEqProofs only [f0, f1, g0, g1, q1, q2, go_sem, reduceIte, Nat.reduceEqDiff, Nat.reduceAdd, Nat.reduceLeDiff, Nat.reduceLT, decide_true, decide_false, vc_cond2, vcGrps_guard2, vcD_val2, vcD_guard2]
    refine vcDO_by _ _ _ _ _ _ _ _ _ _ _ (cm_str m.dn s1) ?_
    simp -implicitDefEqProofs only [f0, f1, g0, g1, q1, q2, go_sem, reduceIte, Nat.reduceEqDiff, Nat.reduceAdd, Nat.reduceLeDiff, Nat.reduceLT, decide_true, decide_false, vc_cond2, vcGrps_guard2, vcD_val2, vcD_guard2]
    refine vcDO_by _ _ _ _ _ _ _ _ _ _ _ (cm_str m.newRdn s3) ?_
    simp -implicitDefEqProofs only [f0, f1, g0, g1, q1, q2, go_sem, reduceIte, Nat.reduceEqDiff, Nat.reduceAdd, Nat.reduceLeDiff, Nat.reduceLT, decide_true, decide_false, vc_cond2, vcGrps_guard2, vcD_val2, vcD_guard2]
    refine vcDO_by _ _ _ _ _ _ _ _ _ _ _ (c22 1 m.deleteOld) ?_
    simp -implicitDefEqProofs only [f0, f1, g0, g1, q1, q2, go_sem, reduceIte, Nat.reduceEqDiff, Nat.reduceAdd, Nat.reduceLeDiff, Nat.reduceLT, decide_true, decide_false, vc_cond2, vcGrps_guard2, vcD_val2, vcD_guard2]
    exact ⟨hE.push _, by omega, OutO.mk (moveB m) 3 rfl (by omega)⟩
  clear hE hn g0 g1 f0 f1 fr T
  rintro fr T ⟨f0, f1, hE, hn, g0, g1, hO⟩
  refine vc_cut (fun fr T => fr 1 = .ptr S.n 0 ∧ Ext S T ∧ T.get S.n = some (.box 68 ZE) ∧ OutO (S.n + 1) T (fr 2) (moveL m)) ?_ ?_
  · cases hh : m.hasSup with
    | false =>
      generalize hb : fr 2 = β at hO
      simp -implicitDefEqProofs only [f0, f1, hb, g0, g1, hh, go_sem, reduceIte, Nat.reduceEqDiff, Nat.reduceAdd, Nat.reduceLeDiff, Nat.reduceLT, decide_true, decide_false, vc_cond2, vcGrps_guard2, vcD_val2, vcD_guard2]
      refine ⟨hE, ?_⟩
      rw [show moveL m = moveB m by simp [moveL, optH, hh]]
      exact hO
    | true =>
      obtain ⟨j, hj, hjn, f3, hgj⟩ := hO
      have q1 : ¬ l = T.n := by omega
      have q2 : ¬ S.n = T.n := by omega
      have q3 : ¬ S.n = j := by omega
      have h3 : (moveB m).length = 3 := rfl
      rw [h3] at f3
      simp -implicitDefEqProofs only [f0, f1, f3, g0, g1, hh, go_sem, reduceIte, Nat.reduceEqDiff, Nat.reduceAdd, Nat.reduceLeDiff, Nat.reduceLT, decide_true, decide_false, vc_cond2, vcGrps_guard2, vcD_val2, vcD_guard2]
      refine (cm_str m.newSup s4).use ?_
      simp -implicitDefEqProofs only [f0, f1, f3, g0, g1, go_sem, reduceIte, Nat.reduceEqDiff, Nat.reduceAdd, Nat.reduceLeDiff, Nat.reduceLT, decide_true, decide_false, vc_cond2, vcGrps_guard2, vcD_val2, vcD_guard2]
      refine (cm_ctx 0 _ (gs4 s4) (i64s 0 (by omega))).use ?_
      simp -implicitDefEqProofs only [f0, f1, f3, g0, g1, hgj, q1, q2, q3, encEs_length, h3, List.take_length, go_sem, reduceIte, Nat.reduceEqDiff, Nat.reduceAdd, Nat.reduceLeDiff, Nat.reduceLT, decide_true, decide_false, vc_cond2, vcGrps_guard2, vcD_val2, vcD_guard2]
      refine ⟨by decide, (hE.set _ _ (by omega)).push _, ?_⟩
      rw [show moveL m = moveB m ++ [ctxE 0 (strE 4 m.newSup)] by simp [moveL, optH, hh, pieceE]]
      exact OutO.more (m := S.n + 1) (T := T) (ks := moveB m) j (ctxE 0 (strE 4 m.newSup)) (by omega)
  clear hE hn g0 g1 f0 f1 hO fr T
  rintro fr T ⟨f1, hE, g1, hO⟩
  generalize h3 : fr 2 = β at hO
  simp -implicitDefEqProofs only [f1, h3, g1, go_sem, reduceIte, Nat.reduceEqDiff, Nat.reduceAdd, Nat.reduceLeDiff, Nat.reduceLT, decide_true, decide_false, vc_cond2, vcGrps_guard2, vcD_val2, vcD_guard2]
  refine hO.l.give fun T' hn' hsame hE' => ?_
  have g1' : T'.get S.n = some (.box 68 ZE) := by rw [hsame _ (by omega)]; exact g1
  refine (cb_Seq (moveL m) (few_b _ (by have := moveL_len m; omega)) hgm).use ?_
  simp -implicitDefEqProofs only [f1, g1', go_sem, reduceIte, Nat.reduceEqDiff, Nat.reduceAdd, Nat.reduceLeDiff, Nat.reduceLT, decide_true, decide_false, vc_cond2, vcGrps_guard2, vcD_val2, vcD_guard2]
  exact (hE' S (by omega) hE).set _ _ (by omega)

def extL (m : Msg) : List Elem := [ctxE 0 (strE 4 m.oid)] ++ optH m.has 1 m.value
theorem good_ext {m : Msg} (hs : okStr m) : ∀ k ∈ extL m, good k := fun k hk => by
  obtain ⟨s1, s2, s3, s4, s5, s6, s7, s8, s9⟩ := hs
  simp only [extL, List.mem_append] at hk
  rcases hk with hk | hk
  · exact good1 (gc 0 (gs4 s7) (by omega)) k hk
  · exact good_optH _ 1 _ (i64s 1 (by omega)) s6 k hk
theorem extL_len (m : Msg) : (extL m).length ≤ 2 := by
  have h2 := optH_len m.has 1 m.value
  simp only [extL, List.length_append, List.length_cons, List.length_nil]; omega
set_option maxHeartbeats 1000000 in
theorem cm_op8 (m : Msg) (hs : okStr m) (S : Store) (l : Nat) (hg : S.get l = some (.box 28 m.mv.enc)) : ACalls prog 262 [.ptr l 0] S fun r S' => r = .ret (.agg (encE (seqE (extL m)))) ∧ S' = S := by
  refine backE (fun n => by simp only [nm]; exact good_nm (good_seq _ (few_b _ (by have := extL_len m; omega)) (good_ext hs)) n) fun hwf => acalls_of_vc lowm_op_8 (by simp) ?_
  have hlt := (hwf l _ hg).1
  have hgm := good_ext hs
  obtain ⟨s1, s2, s3, s4, s5, s6, s7, s8, s9⟩ := hs
  have q0 : ¬ l = S.n := by omega
  unfold Bm_op_8
  refine vc_cut (fun fr T => fr 0 = .ptr l 0 ∧ fr 1 = .ptr S.n 0 ∧ Ext S T ∧ T.n = S.n + 1 ∧ T.get l = some (.box 28 m.mv.enc) ∧ T.get S.n = some (.box 68 ZE)) ?_ ?_
  · simp -implicitDefEqProofs only [hg, q0, go_sem, reduceIte, Nat.reduceEqDiff, Nat.reduceAdd, Nat.reduceLeDiff, Nat.reduceLT, decide_true, decide_false, vc_cond2, vcGrps_guard2, vcD_val2, vcD_guard2]
    exact (Ext.refl S).push _
  rintro fr T ⟨f0, f1, hE, hn, g0, g1⟩
  refine vc_cut (fun fr T => fr 0 = .ptr l 0 ∧ fr 1 = .ptr S.n 0 ∧ Ext S T ∧ S.n + 1 ≤ T.n ∧ T.get l = some (.box 28 m.mv.enc) ∧ T.get S.n = some (.box 68 ZE) ∧ OutO (S.n + 1) T (fr 2) [ctxE 0 (strE 4 m.oid)]) ?_ ?_
  · have q1 : ¬ l = T.n := by omega
    have q2 : ¬ S.n = T.n := by omega
    simp -implicitDefEqProofs only [f0, f1, g0, g1, q1, q2, go_sem, reduceIte, Nat.reduceEqDiff, Nat.reduceAdd, Nat.reduceLeDiff, Nat.reduceLT, decide_true, decide_false, vc_cond2, vcGrps_guard2, vcD_val2, vcD_guard2]
    refine (cm_str m.oid s7).use ?_
    simp -implicitDefEqProofs only [f0, f1, g0, g1, q1, q2, go_sem, reduceIte, Nat.reduceEqDiff, Nat.reduceAdd, Nat.reduceLeDiff, Nat.reduceLT, decide_true, decide_false, vc_cond2, vcGrps_guard2, vcD_val2, vcD_guard2]
    refine (cm_ctx 0 _ (gs4 s7) (i64s 0 (by omega))).use ?_
    simp -implicitDefEqProofs only [f0, f1, g0, g1, q1, q2, go_sem, reduceIte, Nat.reduceEqDiff, Nat.reduceAdd, Nat.reduceLeDiff, Nat.reduceLT, decide_true, decide_false, vc_cond2, vcGrps_guard2, vcD_val2, vcD_guard2]
    exact ⟨hE.push _, by omega, OutO.mk [ctxE 0 (strE 4 m.oid)] 1 rfl (by omega)⟩
  clear hE hn g0 g1 f0 f1 fr T
  rintro fr T ⟨f0, f1, hE, hn, g0, g1, hO⟩
  refine vc_cut (fun fr T => fr 1 = .ptr S.n 0 ∧ Ext S T ∧ T.get S.n = some (.box 68 ZE) ∧ OutO (S.n + 1) T (fr 2) (extL m)) ?_ ?_
  · cases hh : m.has with
    | false =>
      generalize hb : fr 2 = β at hO
      simp -implicitDefEqProofs only [f0, f1, hb, g0, g1, hh, go_sem, reduceIte, Nat.reduceEqDiff, Nat.reduceAdd, Nat.reduceLeDiff, Nat.reduceLT, decide_true, decide_false, vc_cond2, vcGrps_guard2, vcD_val2, vcD_guard2]
      refine ⟨hE, ?_⟩
      rw [show extL m = [ctxE 0 (strE 4 m.oid)] by simp [extL, optH, hh]]
      exact hO
    | true =>
      obtain ⟨j, hj, hjn, f3, hgj⟩ := hO
      have q1 : ¬ l = T.n := by omega
      have q2 : ¬ S.n = T.n := by omega
      have q3 : ¬ S.n = j := by omega
      have h3 : [ctxE 0 (strE 4 m.oid)].length = 1 := rfl
      rw [h3] at f3
      simp -implicitDefEqProofs only [f0, f1, f3, g0, g1, hh, go_sem, reduceIte, Nat.reduceEqDiff, Nat.reduceAdd, Nat.reduceLeDiff, Nat.reduceLT, decide_true, decide_false, vc_cond2, vcGrps_guard2, vcD_val2, vcD_guard2]
      refine (cm_str m.value s6).use ?_
      simp -implicitDefEqProofs only [f0, f1, f3, g0, g1, go_sem, reduceIte, Nat.reduceEqDiff, Nat.reduceAdd, Nat.reduceLeDiff, Nat.reduceLT, decide_true, decide_false, vc_cond2, vcGrps_guard2, vcD_val2, vcD_guard2]
      refine (cm_ctx 1 _ (gs4 s6) (i64s 1 (by omega))).use ?_
      simp -implicitDefEqProofs only [f0, f1, f3, g0, g1, hgj, q1, q2, q3, encEs_length, h3, List.take_length, go_sem, reduceIte, Nat.reduceEqDiff, Nat.reduceAdd, Nat.reduceLeDiff, Nat.reduceLT, decide_true, decide_false, vc_cond2, vcGrps_guard2, vcD_val2, vcD_guard2]
      refine ⟨by decide, (hE.set _ _ (by omega)).push _, ?_⟩
      rw [show extL m = [ctxE 0 (strE 4 m.oid)] ++ [ctxE 1 (strE 4 m.value)] by simp [extL, optH, hh, pieceE]]
      exact OutO.more (m := S.n + 1) (T := T) (ks := [ctxE 0 (strE 4 m.oid)]) j (ctxE 1 (strE 4 m.value)) (by omega)
  clear hE hn g0 g1 f0 f1 hO fr T
  rintro fr T ⟨f1, hE, g1, hO⟩
  generalize h3 : fr 2 = β at hO
  simp -implicitDefEqProofs only [f1, h3, g1, go_sem, reduceIte, Nat.reduceEqDiff, Nat.reduceAdd, Nat.reduceLeDiff, Nat.reduceLT, decide_true, decide_false, vc_cond2, vcGrps_guard2, vcD_val2, vcD_guard2]
  refine hO.l.give fun T' hn' hsame hE' => ?_
  have g1' : T'.get S.n = some (.box 68 ZE) := by rw [hsame _ (by omega)]; exact g1
  refine (cb_Seq (extL m) (few_b _ (by have := extL_len m; omega)) hgm).use ?_
  simp -implicitDefEqProofs only [f1, g1', go_sem, reduceIte, Nat.reduceEqDiff, Nat.reduceAdd, Nat.reduceLeDiff, Nat.reduceLT, decide_true, decide_false, vc_cond2, vcGrps_guard2, vcD_val2, vcD_guard2]
  exact (hE' S (by omega) hE).set _ _ (by omega)

def searchL (fe : Elem) (m : Msg) : List Elem := [strE 4 m.dn, strE 10 (sgn m.scope), strE 10 (sgn m.deref), strE 2 (sgn m.size), strE 2 (sgn m.time), strE 1 [if m.typesOnly then 255 else 0], fe, seqE (strsE m.select)]
theorem good_search {fe : Elem} {m : Msg} (hs : okStr m) (hf : good fe) (ht : okT m.select) : ∀ k ∈ searchL fe m, good k := fun k hk => by
  simp only [searchL, List.mem_cons, List.not_mem_nil, or_false] at hk
  rcases hk with rfl | rfl | rfl | rfl | rfl | rfl | rfl | rfl
  · exact gs4 hs.1
  · exact gi 10 _ (by omega)
  · exact gi 10 _ (by omega)
  · exact gi 2 _ (by omega)
  · exact gi 2 _ (by omega)
  · exact gb 1 _ (by omega)
  · exact hf
  · exact good_strsq ht
set_option maxHeartbeats 1000000 in
theorem cm_op4 (m : Msg) (fe : Elem) (rest : AV) (hs : okStr m) (hi : okInt m) (ht : okT m.select) (hfe : good fe) (hf : Pure prog 255 [filV m.filter m.filX] (.tup [.agg (encE fe), rest]))
    (S : Store) (l : Nat) (hg : S.get l = some (.box 28 m.mv.enc)) : ACalls prog 254 [.ptr l 0] S fun r S' => r = .ret (.agg (encE (seqE (searchL fe m)))) ∧ S' = S := by
  have hgl := good_search hs hfe ht
  refine backE (fun n => by simp only [nm]; exact good_nm (good_seq _ (few_b _ (by simp [searchL])) hgl) n) fun hwf => acalls_of_vc lowm_op_4 (by simp) ?_
  have hlt := (hwf l _ hg).1
  have hs1 := hs.1
  obtain ⟨i1, i2, i3, i4, i5, i6, i7, i8, i9⟩ := hi
  have q0 : ¬ l = S.n := by omega
  have q1 : ¬ l = S.n + 1 := by omega
  unfold Bm_op_4
  refine vc_cut (fun fr T => fr 0 = .ptr l 0 ∧ fr 1 = .ptr S.n 0 ∧ Ext S T ∧ T.n = S.n + 1 ∧ T.get l = some (.box 28 m.mv.enc) ∧ T.get S.n = some (.box 68 ZE)) ?_ ?_
  · simp -implicitDefEqProofs only [hg, q0, go_sem, reduceIte, Nat.reduceEqDiff, Nat.reduceAdd, Nat.reduceLeDiff, Nat.reduceLT, decide_true, decide_false, vc_cond2, vcGrps_guard2, vcD_val2, vcD_guard2]
    exact (Ext.refl S).push _
  rintro fr T ⟨f0, f1, hE, hn, g0, g1⟩
  refine vc_cut (fun fr T => fr 0 = .ptr l 0 ∧ fr 1 = .ptr S.n 0 ∧ fr 2 = .ptr (S.n + 1) 0 ∧ Ext S T ∧ T.get l = some (.box 28 m.mv.enc) ∧ T.get S.n = some (.box 68 ZE) ∧ T.get (S.n + 1) = some (.box 68 (encE fe))) ?_ ?_
  · simp -implicitDefEqProofs only [f0, f1, hn, g0, g1, q0, q1, go_sem, reduceIte, Nat.reduceEqDiff, Nat.reduceAdd, Nat.reduceLeDiff, Nat.reduceLT, decide_true, decide_false, vc_cond2, vcGrps_guard2, vcD_val2, vcD_guard2]
    refine hf.use ?_
    simp -implicitDefEqProofs only [f0, f1, hn, g0, g1, q0, q1, go_sem, reduceIte, Nat.reduceEqDiff, Nat.reduceAdd, Nat.reduceLeDiff, Nat.reduceLT, decide_true, decide_false, vc_cond2, vcGrps_guard2, vcD_val2, vcD_guard2]
    exact (hE.push _).set _ _ (by omega)
  clear hE hn g0 g1 f0 f1 fr T
  rintro fr T ⟨f0, f1, f2, hE, g0, g1, g2⟩
  have W := @vcDO_by
  simp -implicitDefEqProofs only [f0, f1, f2, g0, g1, g2, go_sem, reduceIte, Nat.reduceEqDiff, Nat.reduceAdd, Nat.reduceLeDiff, Nat.reduceLT, decide_true, decide_false, vc_cond2, vcGrps_guard2, vcD_val2, vcD_guard2]
  refine vcDO_by _ _ _ _ _ _ _ _ _ _ _ (cm_str m.dn hs1) ?_
  simp -implicitDefEqProofs only [f0, f1, f2, g0, g1, g2, go_sem, reduceIte, Nat.reduceEqDiff, Nat.reduceAdd, Nat.reduceLeDiff, Nat.reduceLT, decide_true, decide_false, vc_cond2, vcGrps_guard2, vcD_val2, vcD_guard2]
  refine vcDO_by _ _ _ _ _ _ _ _ _ _ _ (c20 10 m.scope i4) ?_
  simp -implicitDefEqProofs only [f0, f1, f2, g0, g1, g2, go_sem, reduceIte, Nat.reduceEqDiff, Nat.reduceAdd, Nat.reduceLeDiff, Nat.reduceLT, decide_true, decide_false, vc_cond2, vcGrps_guard2, vcD_val2, vcD_guard2]
  refine vcDO_by _ _ _ _ _ _ _ _ _ _ _ (c20 10 m.deref i5) ?_
  simp -implicitDefEqProofs only [f0, f1, f2, g0, g1, g2, go_sem, reduceIte, Nat.reduceEqDiff, Nat.reduceAdd, Nat.reduceLeDiff, Nat.reduceLT, decide_true, decide_false, vc_cond2, vcGrps_guard2, vcD_val2, vcD_guard2]
  refine vcDO_by _ _ _ _ _ _ _ _ _ _ _ (c20 2 m.size i6) ?_
  simp -implicitDefEqProofs only [f0, f1, f2, g0, g1, g2, go_sem, reduceIte, Nat.reduceEqDiff, Nat.reduceAdd, Nat.reduceLeDiff, Nat.reduceLT, decide_true, decide_false, vc_cond2, vcGrps_guard2, vcD_val2, vcD_guard2]
  refine vcDO_by _ _ _ _ _ _ _ _ _ _ _ (c20 2 m.time i7) ?_
  simp -implicitDefEqProofs only [f0, f1, f2, g0, g1, g2, go_sem, reduceIte, Nat.reduceEqDiff, Nat.reduceAdd, Nat.reduceLeDiff, Nat.reduceLT, decide_true, decide_false, vc_cond2, vcGrps_guard2, vcD_val2, vcD_guard2]
  refine vcDO_by _ _ _ _ _ _ _ _ _ _ _ (c22 1 m.typesOnly) ?_
  simp -implicitDefEqProofs only [f0, f1, f2, g0, g1, g2, go_sem, reduceIte, Nat.reduceEqDiff, Nat.reduceAdd, Nat.reduceLeDiff, Nat.reduceLT, decide_true, decide_false, vc_cond2, vcGrps_guard2, vcD_val2, vcD_guard2]
  refine vcDO_by _ _ _ _ _ _ _ _ _ _ _ (cm_strs m.select m.selX ht) ?_
  simp -implicitDefEqProofs only [f0, f1, f2, g0, g1, g2, go_sem, reduceIte, Nat.reduceEqDiff, Nat.reduceAdd, Nat.reduceLeDiff, Nat.reduceLT, decide_true, decide_false, vc_cond2, vcGrps_guard2, vcD_val2, vcD_guard2]
  refine vcDO_by _ _ _ _ _ _ _ _ _ _ _ (cb_Seq (strsE m.select) (by rw [strsE_len]; exact okT_b ht) (good_strs ht)) ?_
  simp -implicitDefEqProofs only [f0, f1, f2, g0, g1, g2, go_sem, reduceIte, Nat.reduceEqDiff, Nat.reduceAdd, Nat.reduceLeDiff, Nat.reduceLT, decide_true, decide_false, vc_cond2, vcGrps_guard2, vcD_val2, vcD_guard2]
  refine vcDO_by _ _ _ _ _ _ _ _ _ _ _ (cb_Seq (searchL fe m) (few_b _ (by simp [searchL])) hgl) ?_
  simp -implicitDefEqProofs only [f0, f1, f2, g0, g1, g2, go_sem, reduceIte, Nat.reduceEqDiff, Nat.reduceAdd, Nat.reduceLeDiff, Nat.reduceLT, decide_true, decide_false, vc_cond2, vcGrps_guard2, vcD_val2, vcD_guard2]
  exact hE.set _ _ (by omega)
end Go.Proofs.YtajbeippbabhhaaGreatDoor.Eng

namespace Go.Proofs.YtajbeippbabhhaaGreatDoor.Eng
open Go Go.Proofs.Tryz

/-! ## What a message asks, or tells, as an element -/
def opBody (fe : Elem) (m : Msg) : Elem :=
  if m.op = 0 then bindE m
  else if m.op = 2 then strE 4 []
  else if m.op = 3 then seqE (searchL fe m)
  else if m.op = 6 then seqE [strE 4 m.dn, modsE m.mods]
  else if m.op = 8 then seqE [strE 4 m.dn, attrsE m.attrs]
  else if m.op = 4 then seqE [strE 4 m.dn, attrsE m.attrs]
  else if m.op = 10 then strE 4 m.dn
  else if m.op = 12 then seqE (moveL m)
  else if m.op = 14 then seqE [strE 4 m.dn, seqE [strE 4 m.typ, strE 4 m.value]]
  else if m.op = 16 then strE 2 (sgn m.target)
  else if m.op = 23 then seqE (extL m)
  else seqE (answerL m)
def opE (fe : Elem) (m : Msg) : Elem := asE (opBody fe m) 1 m.op
structure okM (m : Msg) : Prop where
  str : okStr m
  int : okInt m
  mods : okMs m.mods
  attrs : okAs m.attrs
  sel : okT m.select
  ctls : m.controls.length ≤ 1048576 ∧ ∀ c ∈ m.controls, c.oid.length ≤ maxB ∧ c.value.length ≤ maxB
theorem good_iteE {c : Prop} [Decidable c] {a b : Elem} (h1 : c → good a) (h2 : ¬ c → good b) : good (if c then a else b) := by
  by_cases h : c
  · rw [if_pos h]; exact h1 h
  · rw [if_neg h]; exact h2 h
theorem good_opBody {fe : Elem} {m : Msg} (h : okM m) (hf : m.op = 3 → good fe) : good (opBody fe m) := by
  have hs := h.str
  unfold opBody
  refine good_iteE (fun _ => good_bind hs) fun _ => ?_
  refine good_iteE (fun _ => gs4 (by simp)) fun _ => ?_
  refine good_iteE (fun e => good_seq _ (few_b _ (by simp [searchL])) (good_search hs (hf e) h.sel)) fun _ => ?_
  refine good_iteE (fun _ => good_seq _ (few_b _ (by simp)) (good2 (gs4 hs.1) (good_mods h.mods))) fun _ => ?_
  refine good_iteE (fun _ => good_seq _ (few_b _ (by simp)) (good2 (gs4 hs.1) (good_attrs h.attrs))) fun _ => ?_
  refine good_iteE (fun _ => good_seq _ (few_b _ (by simp)) (good2 (gs4 hs.1) (good_attrs h.attrs))) fun _ => ?_
  refine good_iteE (fun _ => gs4 hs.1) fun _ => ?_
  refine good_iteE (fun _ => good_seq _ (few_b _ (by have := moveL_len m; omega)) (good_move hs)) fun _ => ?_
  refine good_iteE (fun _ => good_seq _ (few_b _ (by simp)) (good2 (gs4 hs.1) (good_seq _ (few_b _ (by simp)) (good2 (gs4 hs.2.2.2.2.1) (gs4 hs.2.2.2.2.2.1))))) fun _ => ?_
  refine good_iteE (fun _ => gi 2 _ (by omega)) fun _ => ?_
  refine good_iteE (fun _ => good_seq _ (few_b _ (by have := extL_len m; omega)) (good_ext hs)) fun _ => ?_
  exact good_seq _ (few_b _ (by have := answerL_len m; omega)) (good_answer hs)
theorem good_op {fe : Elem} {m : Msg} (h : okM m) (hf : m.op = 3 → good fe) : good (opE fe m) := good_as _ _ _ (good_opBody h hf) (i64s 1 (by omega)) h.int.2.1

/-- A part of op that reads the message's variable. -/
theorem okC {f : FuncId} {m : Msg} {v : AV} {T : Store} {l : Nat} (h : ∀ (S : Store), S.get l = some (.box 28 m.mv.enc) → ACalls prog f [.ptr l 0] S fun r S' => r = .ret v ∧ S' = S) (hg : T.get l = some (.box 28 m.mv.enc)) : CallOk prog f [.ptr l 0] T v :=
  fun g _ => h _ (by rw [get_addIns, hg]; rfl)
def clo (ks : List Elem) : AV := .fn (.func 251) [.rop [lstV ks []] 0]
def mk1 (f : FuncId) (l : Nat) : AV := .fn (.func f) [.ptr l 0]
def tabF (m : Msg) (l : Nat) : Int → Option AV :=
  updI (updI (updI (updI (updI (updI (updI (updI (updI (updI (updI (fun _ => none) 0 (some (mk1 252 l))) 2 (some (.fn (.func 253) []))) 3 (some (mk1 254 l))) 6 (some (clo [strE 4 m.dn, modsE m.mods]))) 8 (some (clo [strE 4 m.dn, attrsE m.attrs]))) 4 (some (clo [strE 4 m.dn, attrsE m.attrs])))
    10 (some (mk1 259 l))) 12 (some (mk1 260 l))) 14 (some (clo [strE 4 m.dn, seqE [strE 4 m.typ, strE 4 m.value]]))) 16 (some (mk1 261 l))) 23 (some (mk1 262 l))

theorem tab_some {m : Msg} {fe : Elem} {rest : AV} {l : Nat} {v : AV} (h : okM m) (hfe : m.op = 3 → good fe) (hf : m.op = 3 → Pure prog 255 [filV m.filter m.filX] (.tup [.agg (encE fe), rest])) (ht : tabF m l m.op = some v) :
    ∃ g cap, v = .fn (.func g) cap ∧ hasBody prog g = true ∧ ∀ T : Store, T.get l = some (.box 28 m.mv.enc) → CallOk prog g cap T (.agg (encE (opBody fe m))) := by
  obtain ⟨s1, s2, s3, s4, s5, s6, s7, s8, s9⟩ := h.str
  unfold tabF at ht
  by_cases e : m.op = 23
  · rw [e] at ht; simp [updI] at ht; subst ht
    exact ⟨_, _, rfl, by kernel_rfl, fun T hg => by rw [show opBody fe m = seqE (extL m) by simp [opBody, e]]; exact okC (fun S hS => cm_op8 m h.str S l hS) hg⟩
  by_cases e1 : m.op = 16
  · rw [e1] at ht; simp [updI] at ht; subst ht
    exact ⟨_, _, rfl, by kernel_rfl, fun T hg => by rw [show opBody fe m = strE 2 (sgn m.target) by simp [opBody, e1]]; exact okC (fun S hS => cm_op7 m h.int S l hS) hg⟩
  by_cases e2 : m.op = 14
  · rw [e2] at ht; simp [updI] at ht; subst ht
    exact ⟨_, _, rfl, by kernel_rfl, fun T hg => by rw [show opBody fe m = seqE [strE 4 m.dn, seqE [strE 4 m.typ, strE 4 m.value]] by simp [opBody, e2]]; exact (cm_op11 _ (few_b _ (by simp)) (good2 (gs4 s1) (good_seq _ (few_b _ (by simp)) (good2 (gs4 s5) (gs4 s6))))).ok⟩
  by_cases e3 : m.op = 12
  · rw [e3] at ht; simp [updI] at ht; subst ht
    exact ⟨_, _, rfl, by kernel_rfl, fun T hg => by rw [show opBody fe m = seqE (moveL m) by simp [opBody, e3]]; exact okC (fun S hS => cm_op6 m h.str S l hS) hg⟩
  by_cases e4 : m.op = 10
  · rw [e4] at ht; simp [updI] at ht; subst ht
    exact ⟨_, _, rfl, by kernel_rfl, fun T hg => by rw [show opBody fe m = strE 4 m.dn by simp [opBody, e4]]; exact okC (fun S hS => cm_op5 m h.str S l hS) hg⟩
  by_cases e5 : m.op = 4
  · rw [e5] at ht; simp [updI] at ht; subst ht
    exact ⟨_, _, rfl, by kernel_rfl, fun T hg => by rw [show opBody fe m = seqE [strE 4 m.dn, attrsE m.attrs] by simp [opBody, e5]]; exact (cm_op11 _ (few_b _ (by simp)) (good2 (gs4 s1) (good_attrs h.attrs))).ok⟩
  by_cases e6 : m.op = 8
  · rw [e6] at ht; simp [updI] at ht; subst ht
    exact ⟨_, _, rfl, by kernel_rfl, fun T hg => by rw [show opBody fe m = seqE [strE 4 m.dn, attrsE m.attrs] by simp [opBody, e6]]; exact (cm_op11 _ (few_b _ (by simp)) (good2 (gs4 s1) (good_attrs h.attrs))).ok⟩
  by_cases e7 : m.op = 6
  · rw [e7] at ht; simp [updI] at ht; subst ht
    exact ⟨_, _, rfl, by kernel_rfl, fun T hg => by rw [show opBody fe m = seqE [strE 4 m.dn, modsE m.mods] by simp [opBody, e7]]; exact (cm_op11 _ (few_b _ (by simp)) (good2 (gs4 s1) (good_mods h.mods))).ok⟩
  by_cases e8 : m.op = 3
  · rw [e8] at ht; simp [updI] at ht; subst ht
    exact ⟨_, _, rfl, by kernel_rfl, fun T hg => by rw [show opBody fe m = seqE (searchL fe m) by simp [opBody, e8]]; exact okC (fun S hS => cm_op4 m fe rest h.str h.int h.sel (hfe e8) (hf e8) S l hS) hg⟩
  by_cases e9 : m.op = 2
  · rw [e9] at ht; simp [updI] at ht; subst ht
    exact ⟨_, _, rfl, by kernel_rfl, fun T hg => by rw [show opBody fe m = strE 4 [] by simp [opBody, e9]]; exact cm_op3.ok⟩
  by_cases e10 : m.op = 0
  · rw [e10] at ht; simp [updI] at ht; subst ht
    exact ⟨_, _, rfl, by kernel_rfl, fun T hg => by rw [show opBody fe m = bindE m by simp [opBody, e10]]; exact okC (fun S hS => cm_op2 m h.str h.int S l hS) hg⟩
  simp [updI, e, e1, e2, e3, e4, e5, e6, e7, e8, e9, e10] at ht
theorem tab_none {m : Msg} {fe : Elem} {l : Nat} (ht : tabF m l m.op = none) : opBody fe m = seqE (answerL m) := by
  unfold tabF at ht
  simp only [updI] at ht
  unfold opBody
  repeat' split at ht
  all_goals simp_all

set_option maxRecDepth 20000 in
set_option maxHeartbeats 4000000 in
theorem cm_op (m : Msg) (fe : Elem) (rest : AV) (h : okM m) (hfe : m.op = 3 → good fe) (hf : m.op = 3 → Pure prog 255 [filV m.filter m.filX] (.tup [.agg (encE fe), rest])) :
    Pure prog 162 [.agg m.enc] (.agg (encE (opE fe m))) := by
  refine Pure.of (fun n _ => by simp only [nm]; exact good_nm (good_op h hfe) n) fun S => acalls_of_vc lowm_op (by simp) ?_
  have hgb := good_opBody h hfe
  have hb1 : hasBody prog 250 = true := by kernel_rfl
  have hb11 : hasBody prog 251 = true := by kernel_rfl
  obtain ⟨s1, s2, s3, s4, s5, s6, s7, s8, s9⟩ := h.str
  unfold Bm_op
  refine vc_cut (fun fr T => fr 1 = .ptr S.n 0 ∧ fr 2 = .ptr (S.n + 1) 0 ∧ Ext S T ∧ T.n = S.n + 2 ∧ T.get S.n = some (.box 28 m.mv.enc) ∧ T.get (S.n + 1) = some (.box 68 ZE)) ?_ ?_
  · simp -implicitDefEqProofs only [go_sem, reduceIte, Nat.reduceEqDiff, Nat.reduceAdd, Nat.reduceLeDiff, Nat.reduceLT, decide_true, decide_false, vc_cond2, vcGrps_guard2, vcD_val2, vcD_guard2]
    exact ((Ext.refl S).push _).push _
  rintro fr T ⟨f1, f2, hE, hn, g0, g1⟩
  refine vc_cut (fun fr T => fr 1 = .ptr S.n 0 ∧ fr 2 = .ptr (S.n + 1) 0 ∧ fr 3 = .fn (.func 250) [] ∧ Ext S T ∧ T.n = S.n + 2 ∧ T.get S.n = some (.box 28 m.mv.enc) ∧ T.get (S.n + 1) = some (.box 68 ZE)) ?_ ?_
  · simp -implicitDefEqProofs only [f1, f2, go_sem, reduceIte, Nat.reduceEqDiff, Nat.reduceAdd, Nat.reduceLeDiff, Nat.reduceLT, decide_true, decide_false, vc_cond2, vcGrps_guard2, vcD_val2, vcD_guard2]
    exact ⟨hE, hn, g0, g1⟩
  clear hE hn g0 g1 f1 f2 fr T
  rintro fr T ⟨f1, f2, f3, hE, hn, g0, g1⟩
  -- the table
  refine vc_cut (fun fr T => fr 1 = .ptr S.n 0 ∧ fr 2 = .ptr (S.n + 1) 0 ∧ fr 3 = .fn (.func 250) [] ∧ fr 4 = .mp (S.n + 2) ∧ Ext S T ∧ T.get S.n = some (.box 28 m.mv.enc) ∧ T.get (S.n + 1) = some (.box 68 ZE) ∧ T.get (S.n + 2) = some (.mpo (tabF m S.n))) ?_ ?_
  · have q0 : ¬ S.n = T.n := by omega
    have q1 : ¬ S.n + 1 = T.n := by omega
    have pdn := cm_str m.dn s1
    have pmods := cm_mods m.mods m.modX h.mods
    have patt := cm_attrs m.attrs m.attX h.attrs
    have ptyp := cm_str m.typ s5
    have pval := cm_str m.value s6
    have pseq := cb_Seq [strE 4 m.typ, strE 4 m.value] (few_b _ (by simp)) (good2 (gs4 s5) (gs4 s6))
    have k6 := cm_op1 [strE 4 m.dn, modsE m.mods]
    have k8 := cm_op1 [strE 4 m.dn, attrsE m.attrs]
    have k14 := cm_op1 [strE 4 m.dn, seqE [strE 4 m.typ, strE 4 m.value]]
    simp -implicitDefEqProofs only [f1, f2, f3, g0, g1, q0, q1, hb1, List.append_nil, go_sem, reduceIte, Nat.reduceEqDiff, Nat.reduceAdd, Nat.reduceLeDiff, Nat.reduceLT, decide_true, decide_false, vc_cond2, vcGrps_guard2, vcD_val2, vcD_guard2]
    refine vcDO_by _ _ _ _ _ _ _ _ _ _ _ pdn ?_
    simp -implicitDefEqProofs only [f1, f2, f3, g0, g1, q0, q1, hb1, List.append_nil, go_sem, reduceIte, Nat.reduceEqDiff, Nat.reduceAdd, Nat.reduceLeDiff, Nat.reduceLT, decide_true, decide_false, vc_cond2, vcGrps_guard2, vcD_val2, vcD_guard2]
    refine ⟨pdn.ok, ?_⟩
    refine vcDO_by _ _ _ _ _ _ _ _ _ _ _ pmods ?_
    simp -implicitDefEqProofs only [f1, f2, f3, g0, g1, q0, q1, hb1, List.append_nil, go_sem, reduceIte, Nat.reduceEqDiff, Nat.reduceAdd, Nat.reduceLeDiff, Nat.reduceLT, decide_true, decide_false, vc_cond2, vcGrps_guard2, vcD_val2, vcD_guard2]
    refine ⟨pmods.ok, ?_⟩
    refine vcDO_by _ _ _ _ _ _ _ _ _ _ _ k6 ?_
    simp -implicitDefEqProofs only [f1, f2, f3, g0, g1, q0, q1, hb1, List.append_nil, go_sem, reduceIte, Nat.reduceEqDiff, Nat.reduceAdd, Nat.reduceLeDiff, Nat.reduceLT, decide_true, decide_false, vc_cond2, vcGrps_guard2, vcD_val2, vcD_guard2]
    refine ⟨k6.ok, ?_⟩
    refine vcDO_by _ _ _ _ _ _ _ _ _ _ _ pdn ?_
    simp -implicitDefEqProofs only [f1, f2, f3, g0, g1, q0, q1, hb1, List.append_nil, go_sem, reduceIte, Nat.reduceEqDiff, Nat.reduceAdd, Nat.reduceLeDiff, Nat.reduceLT, decide_true, decide_false, vc_cond2, vcGrps_guard2, vcD_val2, vcD_guard2]
    refine ⟨pdn.ok, ?_⟩
    refine vcDO_by _ _ _ _ _ _ _ _ _ _ _ patt ?_
    simp -implicitDefEqProofs only [f1, f2, f3, g0, g1, q0, q1, hb1, List.append_nil, go_sem, reduceIte, Nat.reduceEqDiff, Nat.reduceAdd, Nat.reduceLeDiff, Nat.reduceLT, decide_true, decide_false, vc_cond2, vcGrps_guard2, vcD_val2, vcD_guard2]
    refine ⟨patt.ok, ?_⟩
    refine vcDO_by _ _ _ _ _ _ _ _ _ _ _ k8 ?_
    simp -implicitDefEqProofs only [f1, f2, f3, g0, g1, q0, q1, hb1, List.append_nil, go_sem, reduceIte, Nat.reduceEqDiff, Nat.reduceAdd, Nat.reduceLeDiff, Nat.reduceLT, decide_true, decide_false, vc_cond2, vcGrps_guard2, vcD_val2, vcD_guard2]
    refine ⟨k8.ok, ?_⟩
    refine vcDO_by _ _ _ _ _ _ _ _ _ _ _ pdn ?_
    simp -implicitDefEqProofs only [f1, f2, f3, g0, g1, q0, q1, hb1, List.append_nil, go_sem, reduceIte, Nat.reduceEqDiff, Nat.reduceAdd, Nat.reduceLeDiff, Nat.reduceLT, decide_true, decide_false, vc_cond2, vcGrps_guard2, vcD_val2, vcD_guard2]
    refine ⟨pdn.ok, ?_⟩
    refine vcDO_by _ _ _ _ _ _ _ _ _ _ _ patt ?_
    simp -implicitDefEqProofs only [f1, f2, f3, g0, g1, q0, q1, hb1, List.append_nil, go_sem, reduceIte, Nat.reduceEqDiff, Nat.reduceAdd, Nat.reduceLeDiff, Nat.reduceLT, decide_true, decide_false, vc_cond2, vcGrps_guard2, vcD_val2, vcD_guard2]
    refine ⟨patt.ok, ?_⟩
    refine vcDO_by _ _ _ _ _ _ _ _ _ _ _ k8 ?_
    simp -implicitDefEqProofs only [f1, f2, f3, g0, g1, q0, q1, hb1, List.append_nil, go_sem, reduceIte, Nat.reduceEqDiff, Nat.reduceAdd, Nat.reduceLeDiff, Nat.reduceLT, decide_true, decide_false, vc_cond2, vcGrps_guard2, vcD_val2, vcD_guard2]
    refine ⟨k8.ok, ?_⟩
    refine vcDO_by _ _ _ _ _ _ _ _ _ _ _ pdn ?_
    simp -implicitDefEqProofs only [f1, f2, f3, g0, g1, q0, q1, hb1, List.append_nil, go_sem, reduceIte, Nat.reduceEqDiff, Nat.reduceAdd, Nat.reduceLeDiff, Nat.reduceLT, decide_true, decide_false, vc_cond2, vcGrps_guard2, vcD_val2, vcD_guard2]
    refine ⟨pdn.ok, ?_⟩
    refine vcDO_by _ _ _ _ _ _ _ _ _ _ _ ptyp ?_
    simp -implicitDefEqProofs only [f1, f2, f3, g0, g1, q0, q1, hb1, List.append_nil, go_sem, reduceIte, Nat.reduceEqDiff, Nat.reduceAdd, Nat.reduceLeDiff, Nat.reduceLT, decide_true, decide_false, vc_cond2, vcGrps_guard2, vcD_val2, vcD_guard2]
    refine ⟨ptyp.ok, ?_⟩
    refine vcDO_by _ _ _ _ _ _ _ _ _ _ _ pval ?_
    simp -implicitDefEqProofs only [f1, f2, f3, g0, g1, q0, q1, hb1, List.append_nil, go_sem, reduceIte, Nat.reduceEqDiff, Nat.reduceAdd, Nat.reduceLeDiff, Nat.reduceLT, decide_true, decide_false, vc_cond2, vcGrps_guard2, vcD_val2, vcD_guard2]
    refine ⟨pval.ok, ?_⟩
    refine vcDO_by _ _ _ _ _ _ _ _ _ _ _ pseq ?_
    simp -implicitDefEqProofs only [f1, f2, f3, g0, g1, q0, q1, hb1, List.append_nil, go_sem, reduceIte, Nat.reduceEqDiff, Nat.reduceAdd, Nat.reduceLeDiff, Nat.reduceLT, decide_true, decide_false, vc_cond2, vcGrps_guard2, vcD_val2, vcD_guard2]
    refine ⟨pseq.ok, ?_⟩
    refine vcDO_by _ _ _ _ _ _ _ _ _ _ _ k14 ?_
    simp -implicitDefEqProofs only [f1, f2, f3, g0, g1, q0, q1, hb1, List.append_nil, go_sem, reduceIte, Nat.reduceEqDiff, Nat.reduceAdd, Nat.reduceLeDiff, Nat.reduceLT, decide_true, decide_false, vc_cond2, vcGrps_guard2, vcD_val2, vcD_guard2]
    refine ⟨k14.ok, ?_⟩
    have q2 : ¬ S.n + 2 = S.n := by omega
    simp -implicitDefEqProofs only [f1, f2, f3, g0, g1, q0, q1, Int.reduceEq, Store.set_set, go_sem, reduceIte, Nat.reduceEqDiff, Nat.reduceAdd, Nat.reduceLeDiff, Nat.reduceLT, decide_true, decide_false, vc_cond2, vcGrps_guard2, vcD_val2, vcD_guard2]
    exact ⟨by rw [hn], (hE.push _).set _ _ (by omega), by rw [if_pos hn.symm]; rfl⟩
  clear hE hn g0 g1 f1 f2 f3 fr T
  rintro fr T ⟨f1, f2, f3, f4, hE, g0, g1, g2⟩
  refine vc_cut (fun fr T => fr 1 = .ptr S.n 0 ∧ fr 2 = .ptr (S.n + 1) 0 ∧ fr 3 = .fn (.func 250) [] ∧ Ext S T ∧ T.get S.n = some (.box 28 m.mv.enc) ∧ T.get (S.n + 1) = some (.box 68 ZE) ∧
    ((∃ v, tabF m S.n m.op = some v ∧ fr 5 = v ∧ fr 6 = .bool true) ∨ (tabF m S.n m.op = none ∧ fr 6 = .bool false))) ?_ ?_
  · cases ht : tabF m S.n m.op with
    | some v =>
      simp -implicitDefEqProofs only [f1, f2, f3, f4, g0, g1, g2, ht, go_sem, reduceIte, Nat.reduceEqDiff, Nat.reduceAdd, Nat.reduceLeDiff, Nat.reduceLT, decide_true, decide_false, vc_cond2, vcGrps_guard2, vcD_val2, vcD_guard2]
      exact hE
    | none =>
      simp -implicitDefEqProofs only [f1, f2, f3, f4, g0, g1, g2, ht, go_sem, reduceIte, Nat.reduceEqDiff, Nat.reduceAdd, Nat.reduceLeDiff, Nat.reduceLT, decide_true, decide_false, vc_cond2, vcGrps_guard2, vcD_val2, vcD_guard2]
      exact hE
  clear hE g0 g1 g2 f1 f2 f3 f4 fr T
  rintro fr T ⟨f1, f2, f3, hE, g0, g1, hv⟩
  refine vc_cut (fun fr T => fr 1 = .ptr S.n 0 ∧ fr 2 = .ptr (S.n + 1) 0 ∧ Ext S T ∧ T.get S.n = some (.box 28 m.mv.enc) ∧ T.get (S.n + 1) = some (.box 68 ZE) ∧
    ∃ g cap, fr 5 = .fn (.func g) cap ∧ hasBody prog g = true ∧ CallOk prog g cap T (.agg (encE (opBody fe m)))) ?_ ?_
  · rcases hv with ⟨v, ht, f5, f6⟩ | ⟨ht, f6⟩
    · obtain ⟨g, cap, rfl, hg1, hg2⟩ := tab_some h hfe hf ht
      simp -implicitDefEqProofs only [f1, f2, f3, f5, f6, g0, g1, go_sem, reduceIte, Nat.reduceEqDiff, Nat.reduceAdd, Nat.reduceLeDiff, Nat.reduceLT, decide_true, decide_false, vc_cond2, vcGrps_guard2, vcD_val2, vcD_guard2]
      exact ⟨hE, g, cap, rfl, hg1, hg2 T g0⟩
    · have hbody := tab_none (fe := fe) ht
      have q0 : ¬ S.n = S.n + 1 := by omega
      simp -implicitDefEqProofs only [f1, f2, f3, f6, g0, g1, hb1, List.append_nil, go_sem, reduceIte, Nat.reduceEqDiff, Nat.reduceAdd, Nat.reduceLeDiff, Nat.reduceLT, decide_true, decide_false, vc_cond2, vcGrps_guard2, vcD_val2, vcD_guard2]
      refine (cm_answer m h.str h.int).use ?_
      simp -implicitDefEqProofs only [f1, f2, f3, f6, g0, g1, hb1, List.append_nil, go_sem, reduceIte, Nat.reduceEqDiff, Nat.reduceAdd, Nat.reduceLeDiff, Nat.reduceLT, decide_true, decide_false, vc_cond2, vcGrps_guard2, vcD_val2, vcD_guard2]
      refine (cm_op1 (answerL m)).use ?_
      simp -implicitDefEqProofs only [f1, f2, f3, f6, g0, g1, hb1, List.append_nil, go_sem, reduceIte, Nat.reduceEqDiff, Nat.reduceAdd, Nat.reduceLeDiff, Nat.reduceLT, decide_true, decide_false, vc_cond2, vcGrps_guard2, vcD_val2, vcD_guard2]
      refine ⟨hE, _, _, rfl, hb11, ?_⟩
      rw [hbody]
      exact (cm_op11 (answerL m) (few_b _ (by have := answerL_len m; omega)) (good_answer h.str)).ok
  clear hE g0 g1 f1 f2 f3 hv fr T
  rintro fr T ⟨f1, f2, hE, g0, g1, g, cap, f5, hg1, hg2⟩
  have q0 : ¬ S.n = S.n + 1 := by omega
  simp -implicitDefEqProofs only [f1, f2, f5, g0, g1, hg1, List.append_nil, List.nil_append, go_sem, reduceIte, Nat.reduceEqDiff, Nat.reduceAdd, Nat.reduceLeDiff, Nat.reduceLT, decide_true, decide_false, vc_cond2, vcGrps_guard2, vcD_val2, vcD_guard2]
  refine vcDO_at _ _ _ _ _ _ _ _ _ _ _ hg2 ?_
  simp -implicitDefEqProofs only [f1, f2, f5, g0, g1, List.append_nil, List.nil_append, go_sem, reduceIte, Nat.reduceEqDiff, Nat.reduceAdd, Nat.reduceLeDiff, Nat.reduceLT, decide_true, decide_false, vc_cond2, vcGrps_guard2, vcD_val2, vcD_guard2]
  refine vcDO_by _ _ _ _ _ _ _ _ _ _ _ (cb_As (opBody fe m) 1 m.op hgb) ?_
  simp -implicitDefEqProofs only [f1, f2, f5, g0, g1, List.append_nil, List.nil_append, go_sem, reduceIte, Nat.reduceEqDiff, Nat.reduceAdd, Nat.reduceLeDiff, Nat.reduceLT, decide_true, decide_false, vc_cond2, vcGrps_guard2, vcD_val2, vcD_guard2]
  exact ⟨rfl, hE.set _ _ (by omega)⟩
end Go.Proofs.YtajbeippbabhhaaGreatDoor.Eng

namespace Go.Proofs.YtajbeippbabhhaaGreatDoor.Eng
open Go Go.Proofs.Tryz

/-! ## A message's element -/
def critL (c : Ctl) : List Elem := if c.crit then [strE 1 [if true then 255 else 0]] else []
def hasL (c : Ctl) : List Elem := if c.has then [strE 4 c.value] else []
def ctlE (c : Ctl) : Elem := seqE ([strE 4 c.oid] ++ (critL c ++ hasL c))
def ctlsE (l : List Ctl) : Elem := ctxE 0 (seqE (l.map ctlE))
def msgL (fe : Elem) (m : Msg) : List Elem := [strE 2 (sgn m.id), opE fe m] ++ (if m.controls = [] then [] else [ctlsE m.controls])
def msgE (fe : Elem) (m : Msg) : Elem := seqE (msgL fe m)
def okC2 (c : Ctl) : Prop := c.oid.length ≤ maxB ∧ c.value.length ≤ maxB
theorem ctl_len (c : Ctl) : ([strE 4 c.oid] ++ (critL c ++ hasL c)).length ≤ 3 := by
  cases h1 : c.crit <;> cases h2 : c.has <;> simp [critL, hasL, h1, h2]
theorem good_ctlL {c : Ctl} (h : okC2 c) : ∀ k ∈ [strE 4 c.oid] ++ (critL c ++ hasL c), good k := fun k hk => by
  simp only [List.mem_append] at hk
  rcases hk with hk | hk | hk
  · exact good1 (gs4 h.1) k hk
  · unfold critL at hk; split at hk
    · exact good1 (gb 1 true (by omega)) k hk
    · cases hk
  · unfold hasL at hk; split at hk
    · exact good1 (gs4 h.2) k hk
    · cases hk
theorem good_ctl {c : Ctl} (h : okC2 c) : good (ctlE c) := good_seq _ (few_b _ (by have := ctl_len c; omega)) (good_ctlL h)
theorem good_ctlM {l : List Ctl} (h : ∀ c ∈ l, okC2 c) : ∀ k ∈ l.map ctlE, good k := fun k hk => by
  obtain ⟨s, hs, rfl⟩ := List.mem_map.1 hk
  exact good_ctl (h s hs)
theorem good_ctls {l : List Ctl} (hl : l.length ≤ 1048576) (h : ∀ c ∈ l, okC2 c) : good (ctlsE l) := gc 0 (good_seq _ (len_b (by simp; omega)) (good_ctlM h)) (by omega)
theorem msgL_len (fe : Elem) (m : Msg) : (msgL fe m).length ≤ 3 := by unfold msgL; simp only [List.length_append]; split <;> simp
theorem good_msgL {fe : Elem} {m : Msg} (h : okM m) (hfe : m.op = 3 → good fe) : ∀ k ∈ msgL fe m, good k := fun k hk => by
  simp only [msgL, List.mem_append] at hk
  rcases hk with hk | hk
  · exact good2 (gi 2 _ (by omega)) (good_op h hfe) k hk
  · split at hk
    · cases hk
    · exact good1 (good_ctls h.ctls.1 h.ctls.2) k hk
theorem good_msg {fe : Elem} {m : Msg} (h : okM m) (hfe : m.op = 3 → good fe) : good (msgE fe m) := good_seq _ (few_b _ (by have := msgL_len fe m; omega)) (good_msgL h hfe)

set_option maxHeartbeats 4000000 in
theorem cm_element (m : Msg) (fe : Elem) (rest : AV) (h : okM m) (hfe : m.op = 3 → good fe) (hf : m.op = 3 → Pure prog 255 [filV m.filter m.filX] (.tup [.agg (encE fe), rest])) :
    Pure prog 35 [.agg m.enc] (.agg (encE (msgE fe m))) := by
  refine Pure.of (fun n _ => by simp only [nm]; exact good_nm (good_msg h hfe) n) fun S => acalls_of_vc lowm_element (by simp) ?_
  have hgm := good_msgL h hfe
  have hop := cm_op m fe rest h hfe hf
  have hgo := good_op h hfe
  obtain ⟨hcl, hcs⟩ := h.ctls
  have hid := h.int.1
  unfold Bm_element
  refine vc_cut (fun fr T => fr 1 = .ptr S.n 0 ∧ fr 2 = .ptr (S.n + 1) 0 ∧ Ext S T ∧ T.n = S.n + 2 ∧ T.get S.n = some (.box 28 m.mv.enc) ∧ T.get (S.n + 1) = some (.box 68 ZE)) ?_ ?_
  · simp -implicitDefEqProofs only [go_sem, reduceIte, Nat.reduceEqDiff, Nat.reduceAdd, Nat.reduceLeDiff, Nat.reduceLT, decide_true, decide_false, vc_cond2, vcGrps_guard2, vcD_val2, vcD_guard2]
    exact ((Ext.refl S).push _).push _
  rintro fr T ⟨f1, f2, hE, hn, g0, g1⟩
  refine vc_cut (fun fr T => fr 1 = .ptr S.n 0 ∧ fr 2 = .ptr (S.n + 1) 0 ∧ fr 3 = .own (S.n + 2) 0 2 ∧ Ext S T ∧ T.n = S.n + 3 ∧ T.get S.n = some (.box 28 m.mv.enc) ∧ T.get (S.n + 1) = some (.box 68 ZE) ∧ T.get (S.n + 2) = some (.row 68 5 0 (encEs [strE 2 (sgn m.id), opE fe m]))) ?_ ?_
  · have q0 : ¬ S.n = T.n := by omega
    have q1 : ¬ S.n + 1 = T.n := by omega
    simp -implicitDefEqProofs only [f1, f2, g0, g1, q0, q1, go_sem, reduceIte, Nat.reduceEqDiff, Nat.reduceAdd, Nat.reduceLeDiff, Nat.reduceLT, decide_true, decide_false, vc_cond2, vcGrps_guard2, vcD_val2, vcD_guard2]
    refine vcDO_by _ _ _ _ _ _ _ _ _ _ _ (c20 2 m.id hid) ?_
    simp -implicitDefEqProofs only [f1, f2, g0, g1, q0, q1, go_sem, reduceIte, Nat.reduceEqDiff, Nat.reduceAdd, Nat.reduceLeDiff, Nat.reduceLT, decide_true, decide_false, vc_cond2, vcGrps_guard2, vcD_val2, vcD_guard2]
    refine vcDO_by _ _ _ _ _ _ _ _ _ _ _ hop ?_
    simp -implicitDefEqProofs only [f1, f2, g0, g1, q0, q1, go_sem, reduceIte, Nat.reduceEqDiff, Nat.reduceAdd, Nat.reduceLeDiff, Nat.reduceLT, decide_true, decide_false, vc_cond2, vcGrps_guard2, vcD_val2, vcD_guard2]
    exact ⟨by rw [hn], hE.push _, by omega, by rw [if_pos hn.symm]; rfl⟩
  clear hE hn g0 g1 f1 f2 fr T
  rintro fr T ⟨f1, f2, f3, hE, hn, g0, g1, g2⟩
  refine vc_cut (fun fr T => fr 1 = .ptr S.n 0 ∧ fr 2 = .ptr (S.n + 1) 0 ∧ fr 3 = .own (S.n + 2) 0 2 ∧ fr 4 = .lit (.slice none 0 0) ∧ Ext S T ∧ T.n = S.n + 3 ∧ T.get S.n = some (.box 28 m.mv.enc) ∧ T.get (S.n + 1) = some (.box 68 ZE) ∧ T.get (S.n + 2) = some (.row 68 5 0 (encEs [strE 2 (sgn m.id), opE fe m]))) ?_ ?_
  · simp -implicitDefEqProofs only [f1, f2, f3, go_sem, reduceIte, Nat.reduceEqDiff, Nat.reduceAdd, Nat.reduceLeDiff, Nat.reduceLT, decide_true, decide_false, vc_cond2, vcGrps_guard2, vcD_val2, vcD_guard2]
    exact ⟨hE, hn, g0, g1, g2⟩
  clear hE hn g0 g1 g2 f1 f2 f3 fr T
  rintro fr T ⟨f1, f2, f3, f4, hE, hn, g0, g1, g2⟩
  -- the controls
  refine vc_cut (fun fr T => fr 1 = .ptr S.n 0 ∧ fr 2 = .ptr (S.n + 1) 0 ∧ fr 3 = .own (S.n + 2) 0 2 ∧ Ext S T ∧ S.n + 3 ≤ T.n ∧ T.get S.n = some (.box 28 m.mv.enc) ∧ T.get (S.n + 1) = some (.box 68 ZE) ∧ T.get (S.n + 2) = some (.row 68 5 0 (encEs [strE 2 (sgn m.id), opE fe m])) ∧
    OutL (S.n + 3) T (fr 4) (m.controls.map ctlE)) ?_ ?_
  · simp -implicitDefEqProofs only [f1, f2, f3, f4, g0, g1, g2, map_take_app, List.length_map, go_sem, reduceIte, Nat.reduceEqDiff, Nat.reduceAdd, Nat.reduceLeDiff, Nat.reduceLT, decide_true, decide_false, vc_cond2, vcGrps_guard2, vcD_val2, vcD_guard2]
    intro _
    refine vc_loop (fun n fr T => ∃ i, i + n = m.controls.length ∧ fr 1 = .ptr S.n 0 ∧ fr 2 = .ptr (S.n + 1) 0 ∧ fr 3 = .own (S.n + 2) 0 2 ∧ fr 15 = .sl 4 (m.controls.map Ctl.enc ++ m.ctlX) m.controls.length ∧ fr 16 = .int .i64 m.controls.length ∧ fr 17 = .int .i64 i ∧ Ext S T ∧ S.n + 3 ≤ T.n ∧
        T.get S.n = some (.box 28 m.mv.enc) ∧ T.get (S.n + 1) = some (.box 68 ZE) ∧ T.get (S.n + 2) = some (.row 68 5 0 (encEs [strE 2 (sgn m.id), opE fe m])) ∧ OutL (S.n + 3) T (fr 4) ((m.controls.take i).map ctlE)) m.controls.length
      ⟨0, by simp, f1, f2, f3, rfl, rfl, rfl, hE, by omega, g0, g1, g2, .inl ⟨rfl, f4⟩⟩ ?_
    clear hE hn g0 g1 g2 f1 f2 f3 f4 fr T
    rintro n fr T ⟨i, hin, f1, f2, f3, f15, f16, f17, hE, hn, g0, g1, g2, hO⟩
    by_cases hlt : i < m.controls.length
    · obtain ⟨k, hk⟩ : ∃ k, m.controls[i]? = some k := ⟨_, List.getElem?_eq_getElem hlt⟩
      have hat := map_at_app Ctl.enc m.ctlX hk
      have h0 : (0 : Int) ≤ i := by omega
      have hlt' : (i : Int) < m.controls.length := by omega
      have hi1 : IntKind.i64.wrap ((i : Int) + 1) = i + 1 := w64 _ (by omega) (by omega)
      have hks := hcs k (List.mem_of_getElem? hk)
      have hte : (m.controls.take (i + 1)).map ctlE = (m.controls.take i).map ctlE ++ [ctlE k] := by rw [take_snoc hk]; simp
      have hil : ((m.controls.take i).map ctlE).length = i := by simp; omega
      obtain ⟨p, hp⟩ : ∃ p, T.n = p := ⟨_, rfl⟩
      obtain ⟨β, hβ⟩ : ∃ β, fr 4 = β := ⟨_, rfl⟩
      rw [hβ] at hO
      refine vc_cut (fun fr' T' => (∀ t, t < 18 → fr' t = fr t) ∧ fr' 18 = .bool true ∧ T' = T) ?_ ?_
      · simp -implicitDefEqProofs only [f16, f17, hlt', decide_true, go_sem, reduceIte, Nat.reduceEqDiff, Nat.reduceAdd, Nat.reduceLeDiff, Nat.reduceLT, decide_true, decide_false, vc_cond2, vcGrps_guard2, vcD_val2, vcD_guard2]
        intro t ht
        rw [if_neg (by omega)]
      rintro fr' T' ⟨hfr, f18, rfl⟩
      have F1 : fr' 1 = .ptr S.n 0 := by rw [hfr 1 (by omega)]; exact f1
      have F2 : fr' 2 = .ptr (S.n + 1) 0 := by rw [hfr 2 (by omega)]; exact f2
      have F3 : fr' 3 = .own (S.n + 2) 0 2 := by rw [hfr 3 (by omega)]; exact f3
      have F4 : fr' 4 = β := by rw [hfr 4 (by omega)]; exact hβ
      have F15 := (hfr 15 (by omega)).trans f15
      have F16 := (hfr 16 (by omega)).trans f16
      have F17 := (hfr 17 (by omega)).trans f17
      refine vc_cut (fun fr T => fr = fr' ∧ T = T') ?_ ?_
      · simp -implicitDefEqProofs only [f18, go_sem, reduceIte, Nat.reduceEqDiff, Nat.reduceAdd, Nat.reduceLeDiff, Nat.reduceLT, decide_true, decide_false, vc_cond2, vcGrps_guard2, vcD_val2, vcD_guard2]
      rintro _ _ ⟨rfl, rfl⟩
      clear f1 f2 f3 f15 f16 f17 f18 hβ hfr fr
      rename_i fr T
      refine vc_cut (fun fr U => fr 1 = .ptr S.n 0 ∧ fr 2 = .ptr (S.n + 1) 0 ∧ fr 3 = .own (S.n + 2) 0 2 ∧ fr 15 = .sl 4 (m.controls.map Ctl.enc ++ m.ctlX) m.controls.length ∧ fr 16 = .int .i64 m.controls.length ∧ fr 17 = .int .i64 i ∧ Ext S U ∧ S.n + 3 ≤ U.n ∧
        U.get S.n = some (.box 28 m.mv.enc) ∧ U.get (S.n + 1) = some (.box 68 ZE) ∧ U.get (S.n + 2) = some (.row 68 5 0 (encEs [strE 2 (sgn m.id), opE fe m])) ∧ OutL (S.n + 3) U (fr 4) ((m.controls.take i).map ctlE ++ [ctlE k])) ?_ ?_
      rotate_left
      · clear F1 F2 F3 F4 F15 F16 F17 hE hn hp g0 g1 g2 hO fr T
        rintro fr T ⟨f1, f2, f3, f15, f16, f17, hE, hn, g0, g1, g2, hO⟩
        simp -implicitDefEqProofs only [f1, f2, f3, f15, f16, f17, g0, g1, g2, hi1, go_sem, reduceIte, Nat.reduceEqDiff, Nat.reduceAdd, Nat.reduceLeDiff, Nat.reduceLT, decide_true, decide_false, vc_cond2, vcGrps_guard2, vcD_val2, vcD_guard2]
        refine ⟨n - 1, by omega, i + 1, by omega, by simp, hE, hn, ?_⟩
        rw [hte]; exact hO
      rw [vc_block]
      -- the control's variable
      refine vc_cut (fun fr U => fr 1 = .ptr S.n 0 ∧ fr 2 = .ptr (S.n + 1) 0 ∧ fr 3 = .own (S.n + 2) 0 2 ∧ fr 4 = β ∧ fr 15 = .sl 4 (m.controls.map Ctl.enc ++ m.ctlX) m.controls.length ∧ fr 16 = .int .i64 m.controls.length ∧ fr 17 = .int .i64 i ∧ Ext S U ∧ U.n = p + 1 ∧ (∀ j, j < p → U.get j = T.get j) ∧
        fr 6 = .ptr p 0 ∧ U.get p = some (.box 85 k.enc)) ?_ ?_
      · simp -implicitDefEqProofs only [F1, F2, F3, F4, F15, F16, F17, hp, hlt, hlt', h0, hat, go_sem, reduceIte, Nat.reduceEqDiff, Nat.reduceAdd, Nat.reduceLeDiff, Nat.reduceLT, decide_true, decide_false, vc_cond2, vcGrps_guard2, vcD_val2, vcD_guard2]
        refine ⟨(hE.push _).set _ _ (by omega), fun j hj => ?_⟩
        rw [if_neg (by omega), if_neg (by omega)]
      clear F1 F2 F3 F4 F15 F16 F17
      rintro fr2 U ⟨f1, f2, f3, f4, f15, f16, f17, hE2, hUn, hsame, f6, gp⟩
      -- its texts
      refine vc_cut (fun fr U => fr 1 = .ptr S.n 0 ∧ fr 2 = .ptr (S.n + 1) 0 ∧ fr 3 = .own (S.n + 2) 0 2 ∧ fr 4 = β ∧ fr 15 = .sl 4 (m.controls.map Ctl.enc ++ m.ctlX) m.controls.length ∧ fr 16 = .int .i64 m.controls.length ∧ fr 17 = .int .i64 i ∧ Ext S U ∧ p + 1 ≤ U.n ∧ (∀ j, j < p → U.get j = T.get j) ∧ U.get p = some (.box 85 k.enc) ∧ fr 6 = .ptr p 0 ∧ OutO (p + 1) U (fr 7) [strE 4 k.oid]) ?_ ?_
      · have q1 : ¬ p = U.n := by omega
        simp -implicitDefEqProofs only [f1, f2, f3, f4, f15, f16, f17, f6, gp, q1, go_sem, reduceIte, Nat.reduceEqDiff, Nat.reduceAdd, Nat.reduceLeDiff, Nat.reduceLT, decide_true, decide_false, vc_cond2, vcGrps_guard2, vcD_val2, vcD_guard2]
        refine (cm_str k.oid hks.1).use ?_
        simp -implicitDefEqProofs only [f1, f2, f3, f4, f15, f16, f17, f6, gp, q1, go_sem, reduceIte, Nat.reduceEqDiff, Nat.reduceAdd, Nat.reduceLeDiff, Nat.reduceLT, decide_true, decide_false, vc_cond2, vcGrps_guard2, vcD_val2, vcD_guard2]
        refine ⟨hE2.push _, by omega, fun j hj => ?_, OutO.mk [strE 4 k.oid] 1 rfl (by omega)⟩
        rw [if_neg (by omega)]; exact hsame j hj
      clear f1 f2 f3 f4 f15 f16 f17 hE2 hUn hsame gp f6 fr2 U
      rintro fr2 U ⟨f1, f2, f3, f4, f15, f16, f17, hE2, hn2, hsame, gp, f6, hO7⟩
      refine vc_cut (fun fr U => fr 1 = .ptr S.n 0 ∧ fr 2 = .ptr (S.n + 1) 0 ∧ fr 3 = .own (S.n + 2) 0 2 ∧ fr 4 = β ∧ fr 15 = .sl 4 (m.controls.map Ctl.enc ++ m.ctlX) m.controls.length ∧ fr 16 = .int .i64 m.controls.length ∧ fr 17 = .int .i64 i ∧ Ext S U ∧ p + 1 ≤ U.n ∧ (∀ j, j < p → U.get j = T.get j) ∧ U.get p = some (.box 85 k.enc) ∧ fr 6 = .ptr p 0 ∧ OutO (p + 1) U (fr 7) ([strE 4 k.oid] ++ critL k)) ?_ ?_
      · cases hcr : k.crit with
        | false =>
          generalize hb : fr2 7 = γ at hO7
          simp -implicitDefEqProofs only [f1, f2, f3, f4, f15, f16, f17, f6, gp, hb, hcr, go_sem, reduceIte, Nat.reduceEqDiff, Nat.reduceAdd, Nat.reduceLeDiff, Nat.reduceLT, decide_true, decide_false, vc_cond2, vcGrps_guard2, vcD_val2, vcD_guard2]
          exact ⟨hE2, hn2, hsame, by simpa [critL, hcr] using hO7⟩
        | true =>
          obtain ⟨j, hj, hjn, f7, hg⟩ := hO7
          have q1 : ¬ p = U.n := by omega
          have q2 : ¬ p = j := by omega
          have h1 : [strE 4 k.oid].length = 1 := rfl
          rw [h1] at f7
          simp -implicitDefEqProofs only [f1, f2, f3, f4, f15, f16, f17, f6, f7, gp, hcr, go_sem, reduceIte, Nat.reduceEqDiff, Nat.reduceAdd, Nat.reduceLeDiff, Nat.reduceLT, decide_true, decide_false, vc_cond2, vcGrps_guard2, vcD_val2, vcD_guard2]
          refine (c22 1 true).use ?_
          simp -implicitDefEqProofs only [f1, f2, f3, f4, f15, f16, f17, f6, f7, gp, hg, q1, q2, encEs_length, h1, List.take_length, go_sem, reduceIte, Nat.reduceEqDiff, Nat.reduceAdd, Nat.reduceLeDiff, Nat.reduceLT, decide_true, decide_false, vc_cond2, vcGrps_guard2, vcD_val2, vcD_guard2]
          refine ⟨by decide, (hE2.set _ _ (by omega)).push _, by omega, fun j' hj' => ?_, ?_⟩
          · rw [if_neg (by omega), if_neg (by omega)]; exact hsame j' hj'
          · have := OutO.more (m := p + 1) (T := U) (ks := [strE 4 k.oid]) j (strE 1 [if true then 255 else 0]) (by omega)
            simpa [critL, hcr] using this
      clear f1 f2 f3 f4 f15 f16 f17 hE2 hn2 hsame gp hO7 f6 fr2 U
      rintro fr2 U ⟨f1, f2, f3, f4, f15, f16, f17, hE2, hn2, hsame, gp, f6, hO7⟩
      obtain ⟨c, hc⟩ : ∃ c, ([strE 4 k.oid] ++ critL k).length = c := ⟨_, rfl⟩
      have hcb : c ≤ 2 := by
        rw [← hc]; unfold critL; split <;> simp
      refine vc_cut (fun fr U => fr 1 = .ptr S.n 0 ∧ fr 2 = .ptr (S.n + 1) 0 ∧ fr 3 = .own (S.n + 2) 0 2 ∧ fr 4 = β ∧ fr 15 = .sl 4 (m.controls.map Ctl.enc ++ m.ctlX) m.controls.length ∧ fr 16 = .int .i64 m.controls.length ∧ fr 17 = .int .i64 i ∧ Ext S U ∧ p + 1 ≤ U.n ∧ (∀ j, j < p → U.get j = T.get j) ∧ U.get p = some (.box 85 k.enc) ∧ OutO (p + 1) U (fr 7) ([strE 4 k.oid] ++ (critL k ++ hasL k))) ?_ ?_
      · cases hcr : k.has with
        | false =>
          generalize hb : fr2 7 = γ at hO7
          simp -implicitDefEqProofs only [f1, f2, f3, f4, f15, f16, f17, f6, gp, hb, hcr, go_sem, reduceIte, Nat.reduceEqDiff, Nat.reduceAdd, Nat.reduceLeDiff, Nat.reduceLT, decide_true, decide_false, vc_cond2, vcGrps_guard2, vcD_val2, vcD_guard2]
          exact ⟨hE2, hn2, hsame, by simpa [hasL, hcr] using hO7⟩
        | true =>
          obtain ⟨j, hj, hjn, f7, hg⟩ := hO7
          have q1 : ¬ p = U.n := by omega
          have q2 : ¬ p = j := by omega
          rw [hc] at f7
          simp -implicitDefEqProofs only [f1, f2, f3, f4, f15, f16, f17, f6, f7, gp, hcr, go_sem, reduceIte, Nat.reduceEqDiff, Nat.reduceAdd, Nat.reduceLeDiff, Nat.reduceLT, decide_true, decide_false, vc_cond2, vcGrps_guard2, vcD_val2, vcD_guard2]
          refine (cm_str k.value hks.2).use ?_
          simp -implicitDefEqProofs only [f1, f2, f3, f4, f15, f16, f17, f6, f7, gp, hg, q1, q2, encEs_length, hc, List.take_length, go_sem, reduceIte, Nat.reduceEqDiff, Nat.reduceAdd, Nat.reduceLeDiff, Nat.reduceLT, decide_true, decide_false, vc_cond2, vcGrps_guard2, vcD_val2, vcD_guard2]
          refine ⟨by omega, (hE2.set _ _ (by omega)).push _, by omega, fun j' hj' => ?_, ?_⟩
          · rw [if_neg (by omega), if_neg (by omega)]; exact hsame j' hj'
          · have := OutO.more (m := p + 1) (T := U) (ks := [strE 4 k.oid] ++ critL k) j (strE 4 k.value) (by omega)
            rw [hc] at this
            rw [show [strE 4 k.oid] ++ (critL k ++ hasL k) = ([strE 4 k.oid] ++ critL k) ++ [strE 4 k.value] by simp [hasL, hcr]]
            exact this
      clear f1 f2 f3 f4 f15 f16 f17 hE2 hn2 hsame gp hO7 f6 fr2 U hc hcb c
      rintro fr2 U ⟨f1, f2, f3, f4, f15, f16, f17, hE2, hn2, hsame, gp, hO7⟩
      generalize hb : fr2 7 = γ at hO7
      simp -implicitDefEqProofs only [f1, f2, f3, f4, f15, f16, f17, gp, hb, go_sem, reduceIte, Nat.reduceEqDiff, Nat.reduceAdd, Nat.reduceLeDiff, Nat.reduceLT, decide_true, decide_false, vc_cond2, vcGrps_guard2, vcD_val2, vcD_guard2]
      refine hO7.l.give fun U' hn' hsm hE' => ?_
      refine (cb_Seq ([strE 4 k.oid] ++ (critL k ++ hasL k)) (few_b _ (by have := ctl_len k; omega)) (good_ctlL hks)).use ?_
      have hS2 : ∀ j, j < p → U'.get j = T.get j := fun j hj => (hsm j (by omega)).trans (hsame j hj)
      have hEU := hE' S (by omega) hE2
      have G0 : U'.get S.n = some (.box 28 m.mv.enc) := by rw [hS2 _ (by omega)]; exact g0
      have G1 : U'.get (S.n + 1) = some (.box 68 ZE) := by rw [hS2 _ (by omega)]; exact g1
      have G2 : U'.get (S.n + 2) = some (.row 68 5 0 (encEs [strE 2 (sgn m.id), opE fe m])) := by rw [hS2 _ (by omega)]; exact g2
      have q0 : ¬ S.n = U'.n := by omega
      have q1 : ¬ S.n + 1 = U'.n := by omega
      have q2 : ¬ S.n + 2 = U'.n := by omega
      rcases hO with ⟨hn0, rfl⟩ | ⟨j, hj, hjn, rfl, hg⟩
      · simp -implicitDefEqProofs only [f1, f2, f3, f4, f15, f16, f17, hb, G0, G1, G2, q0, q1, q2, List.take_length, go_sem, reduceIte, Nat.reduceEqDiff, Nat.reduceAdd, Nat.reduceLeDiff, Nat.reduceLT, decide_true, decide_false, vc_cond2, vcGrps_guard2, vcD_val2, vcD_guard2]
        refine ⟨by decide, hEU.push _, by omega, ?_⟩
        rw [hn0]
        exact OutL.one (ctlE k) (by omega)
      · have hgU : U'.get j = some (.row 68 5 0 (encEs ((m.controls.take i).map ctlE))) := by rw [hS2 _ (by omega)]; exact hg
        rw [hil] at f4
        have q3 : ¬ S.n = j := by omega
        have q4 : ¬ S.n + 1 = j := by omega
        have q5 : ¬ S.n + 2 = j := by omega
        simp -implicitDefEqProofs only [f1, f2, f3, f4, f15, f16, f17, hb, G0, G1, G2, hgU, q0, q1, q2, q3, q4, q5, encEs_length, hil, List.take_length, go_sem, reduceIte, Nat.reduceEqDiff, Nat.reduceAdd, Nat.reduceLeDiff, Nat.reduceLT, decide_true, decide_false, vc_cond2, vcGrps_guard2, vcD_val2, vcD_guard2]
        refine ⟨by omega, (hEU.set _ _ (by omega)).push _, by omega, ?_⟩
        have := OutL.more (m := S.n + 3) (T := U') (ks := (m.controls.take i).map ctlE) j (ctlE k) (by omega)
        rw [hil] at this; exact this
    · have hlt' : ¬ (i : Int) < m.controls.length := by omega
      have hi : i = m.controls.length := by omega
      rw [hi, List.take_length] at hO
      simp -implicitDefEqProofs only [f1, f2, f3, f15, f16, f17, hlt', decide_false, go_sem, reduceIte, Nat.reduceEqDiff, Nat.reduceAdd, Nat.reduceLeDiff, Nat.reduceLT, decide_true, decide_false, vc_cond2, vcGrps_guard2, vcD_val2, vcD_guard2]
      exact ⟨hE, hn, g0, g1, g2, hO⟩
  clear hE hn g0 g1 g2 f1 f2 f3 f4 fr T
  rintro fr T ⟨f1, f2, f3, hE, hn, g0, g1, g2, hO⟩
  refine vc_cut (fun fr T => fr 2 = .ptr (S.n + 1) 0 ∧ Ext S T ∧ T.get (S.n + 1) = some (.box 68 ZE) ∧ OutO (S.n + 2) T (fr 3) (msgL fe m)) ?_ ?_
  rotate_left
  · clear hE hn g0 g1 g2 f1 f2 f3 hO fr T
    rintro fr T ⟨f2, hE, g1, hO⟩
    generalize h3 : fr 3 = β at hO
    simp -implicitDefEqProofs only [f2, h3, g1, go_sem, reduceIte, Nat.reduceEqDiff, Nat.reduceAdd, Nat.reduceLeDiff, Nat.reduceLT, decide_true, decide_false, vc_cond2, vcGrps_guard2, vcD_val2, vcD_guard2]
    refine hO.l.give fun T' hn' hsame hE' => ?_
    have g1' : T'.get (S.n + 1) = some (.box 68 ZE) := by rw [hsame _ (by omega)]; exact g1
    refine (cb_Seq (msgL fe m) (few_b _ (by have := msgL_len fe m; omega)) hgm).use ?_
    simp -implicitDefEqProofs only [f2, g1', go_sem, reduceIte, Nat.reduceEqDiff, Nat.reduceAdd, Nat.reduceLeDiff, Nat.reduceLT, decide_true, decide_false, vc_cond2, vcGrps_guard2, vcD_val2, vcD_guard2]
    exact ⟨rfl, (hE' S (by omega) hE).set _ _ (by omega)⟩
  have hb2 : OutO (S.n + 2) T (.own (S.n + 2) 0 2) [strE 2 (sgn m.id), opE fe m] := ⟨S.n + 2, Nat.le_refl _, by omega, rfl, g2⟩
  have hz : ¬ (0 : Int) > 0 := by omega
  have hO' := hO
  by_cases hc : m.controls = []
  · have hm : msgL fe m = [strE 2 (sgn m.id), opE fe m] := by simp [msgL, hc]
    rw [hm]
    rw [hc] at hO
    rcases hO with ⟨_, f4⟩ | ⟨j, hj, hjn, f4, hg⟩
    · simp -implicitDefEqProofs only [f1, f2, f3, f4, g0, g1, g2, hz, decide_false, go_sem, reduceIte, Nat.reduceEqDiff, Nat.reduceAdd, Nat.reduceLeDiff, Nat.reduceLT, decide_true, decide_false, vc_cond2, vcGrps_guard2, vcD_val2, vcD_guard2]
      exact fun _ => ⟨fun h => absurd h (by decide), fun _ => ⟨hE, hb2⟩⟩
    · have hl0 : (List.map ctlE ([] : List Ctl)).length = 0 := rfl
      rw [hl0] at f4
      simp -implicitDefEqProofs only [f1, f2, f3, f4, g0, g1, g2, hg, hz, encEs, List.map_nil, List.drop_nil, List.take_nil, decide_false, go_sem, reduceIte, Nat.reduceEqDiff, Nat.reduceAdd, Nat.reduceLeDiff, Nat.reduceLT, decide_true, decide_false, vc_cond2, vcGrps_guard2, vcD_val2, vcD_guard2]
      exact fun _ => ⟨fun h => absurd h (by decide), fun _ => ⟨hE, hb2⟩⟩
  · obtain ⟨q, hq⟩ : ∃ q, m.controls.length = q + 1 := ⟨m.controls.length - 1, by
      have : m.controls.length ≠ 0 := fun e => hc (List.eq_nil_of_length_eq_zero e)
      omega⟩
    have hm : msgL fe m = [strE 2 (sgn m.id), opE fe m] ++ [ctlsE m.controls] := by simp [msgL, hc]
    have hml : (m.controls.map ctlE).length = q + 1 := by simp [hq]
    rw [hm]
    rcases hO with ⟨hn0, f4⟩ | ⟨j, hj, hjn, f4, hg⟩
    · simp [hc] at hn0
    · rw [hml] at f4
      have hpos : (((q + 1 : Nat) : Int) > 0) := by omega
      simp -implicitDefEqProofs only [f1, f2, f3, f4, g0, g1, g2, hg, encEs_length, hml, List.length_take, Nat.min_self, hpos, decide_true, go_sem, reduceIte, Nat.reduceEqDiff, Nat.reduceAdd, Nat.reduceLeDiff, Nat.reduceLT, decide_true, decide_false, vc_cond2, vcGrps_guard2, vcD_val2, vcD_guard2]
      intro _
      rw [f4] at hO'
      rw [show (AV.own j 0 (q + 1)) = .own j 0 (m.controls.map ctlE).length by rw [hml]] at hO' ⊢
      refine hO'.give fun T' hn' hsm hE' => ?_
      have hgs := good_ctlM hcs
      have hlb : (m.controls.map ctlE).length * 64 ≤ maxB := len_b (by simp; omega)
      have G1 : T'.get (S.n + 1) = some (.box 68 ZE) := by rw [hsm _ (by omega)]; exact g1
      have G2 : T'.get (S.n + 2) = some (.row 68 5 0 (encEs [strE 2 (sgn m.id), opE fe m])) := by rw [hsm _ (by omega)]; exact g2
      have q1 : ¬ S.n + 1 = T'.n := by omega
      have hl2 : [strE 2 (sgn m.id), opE fe m].length = 2 := rfl
      refine (cb_Seq _ hlb hgs).use ?_
      simp -implicitDefEqProofs only [f1, f2, f3, G1, G2, go_sem, reduceIte, Nat.reduceEqDiff, Nat.reduceAdd, Nat.reduceLeDiff, Nat.reduceLT, decide_true, decide_false, vc_cond2, vcGrps_guard2, vcD_val2, vcD_guard2]
      refine (cm_ctx 0 _ (good_seq _ hlb hgs) (i64s 0 (by omega))).use ?_
      simp -implicitDefEqProofs only [f1, f2, f3, G1, G2, q1, encEs_length, hl2, List.take_length, go_sem, reduceIte, Nat.reduceEqDiff, Nat.reduceAdd, Nat.reduceLeDiff, Nat.reduceLT, decide_true, decide_false, vc_cond2, vcGrps_guard2, vcD_val2, vcD_guard2]
      refine ⟨by decide, ((hE' S (by omega) hE).set _ _ (by omega)).push _, ?_⟩
      exact OutO.more (m := S.n + 2) (T := T') (ks := [strE 2 (sgn m.id), opE fe m]) (S.n + 2) (ctlsE m.controls) (by omega)
end Go.Proofs.YtajbeippbabhhaaGreatDoor.Eng

namespace Go.Proofs.YtajbeippbabhhaaGreatDoor.Eng
open Go Go.Proofs.Tryz

/-! ## Write -/
def writeM (fv : Bool) (fe : Elem) (m : Msg) : List UInt8 × Int := if validB fv m then writeS (msgE fe m) else ([], 70)
theorem valid_fv {fv : Bool} {m : Msg} (h : validB fv m = true) (e : m.op = 3) : fv = true := by
  unfold validB at h
  simp only [Bool.and_eq_true] at h
  have := h.1
  unfold bareOk at this
  rw [if_neg (by omega), if_neg (by omega), if_pos e] at this
  simp only [Bool.and_eq_true] at this
  exact this.2.2.2.2
theorem cm_Write (m : Msg) (fv : Bool) (fe : Elem) (rest : AV) (h : okM m) (hv : m.op = 3 → Pure prog 179 [filV m.filter m.filX] (.bool fv)) (hfe : m.op = 3 → fv = true → good fe)
    (hf : m.op = 3 → fv = true → Pure prog 255 [filV m.filter m.filX] (.tup [.agg (encE fe), rest])) :
    Pure prog 13 [.agg m.enc] (.tup [.str (writeM fv fe m).1, .int .i64 (writeM fv fe m).2]) := by
  have hml : m.mods.length ≤ maxB := by have := h.mods.1; unfold maxB; omega
  have hcl : m.controls.length ≤ maxB := by have := h.ctls.1; unfold maxB; omega
  refine Pure.of (fun n _ => by simp only [nm, nmL, and_true]) fun S => acalls_of_vc lowm_Write (by simp) ?_
  have hx := (Ext.refl S).push
  simp -implicitDefEqProofs only [Bm_Write, go_sem, reduceIte, Nat.reduceEqDiff, Nat.reduceAdd, Nat.reduceLeDiff, Nat.reduceLT, decide_true, decide_false, vc_cond2, vcGrps_guard2, vcD_val2, vcD_guard2]
  refine (cm_Valid m fv hml hcl hv).use ?_
  unfold writeM
  cases hb : validB fv m with
  | false =>
    simp -implicitDefEqProofs only [go_sem, reduceIte, Nat.reduceEqDiff, Nat.reduceAdd, Nat.reduceLeDiff, Nat.reduceLT, decide_true, decide_false, vc_cond2, vcGrps_guard2, vcD_val2, vcD_guard2]
    exact hx _
  | true =>
    simp -implicitDefEqProofs only [go_sem, reduceIte, Nat.reduceEqDiff, Nat.reduceAdd, Nat.reduceLeDiff, Nat.reduceLT, decide_true, decide_false, vc_cond2, vcGrps_guard2, vcD_val2, vcD_guard2]
    have hfv := fun e => valid_fv hb e
    refine (cm_element m fe rest h (fun e => hfe e (hfv e)) (fun e => hf e (hfv e))).use ?_
    simp -implicitDefEqProofs only [go_sem, reduceIte, Nat.reduceEqDiff, Nat.reduceAdd, Nat.reduceLeDiff, Nat.reduceLT, decide_true, decide_false, vc_cond2, vcGrps_guard2, vcD_val2, vcD_guard2]
    refine (c15 _ (good_msg h (fun e => hfe e (hfv e))).2).use ?_
    simp -implicitDefEqProofs only [go_sem, reduceIte, Nat.reduceEqDiff, Nat.reduceAdd, Nat.reduceLeDiff, Nat.reduceLT, decide_true, decide_false, vc_cond2, vcGrps_guard2, vcD_val2, vcD_guard2]
    exact hx _
end Go.Proofs.YtajbeippbabhhaaGreatDoor.Eng

namespace Go.Proofs.YtajbeippbabhhaaGreatDoor.Eng
open Go Go.Proofs.Tryz

/-! ## Rows that are read -/
def errV : AV := .ifc 32 (.int .i64 70)
def rowO (es : List Elem) : AObj := .box 201 [lstV es []]
def outR : Option AV → AEnd
  | some v => .ret v
  | none => .pan errV
def wantR (b : Bool) : Option AV := if b then some (.tup []) else none
theorem errV_nm (n : Nat) : nm n errV := by simp only [errV, nm]
theorem outR_nm {n : Nat} {o : Option AV} (h : ∀ v, o = some v → nm n v) : nm n (outR o).val := by
  cases o with
  | none => exact errV_nm n
  | some v => exact h v rfl
theorem cm_want (b : Bool) (S : Store) : Det prog 272 [.bool b] S (outR (wantR b)) S := by
  cases b with
  | true =>
    refine Det.same (fun _ => by simp only [wantR, outR, if_true, AEnd.val, nm, nmL]) fun _ => acalls_of_vc lowm_want (by simp) ?_
    simp -implicitDefEqProofs only [Bm_want, wantR, outR, go_sem, reduceIte, Nat.reduceEqDiff, Nat.reduceAdd, Nat.reduceLeDiff, Nat.reduceLT, decide_true, decide_false, vc_cond2, vcGrps_guard2, vcD_val2, vcD_guard2]
    exact Ext.refl _
  | false =>
    refine Det.same (fun _ => by simp only [wantR, outR, if_false, Bool.false_eq_true, AEnd.val, errV, nm]) fun _ => acalls_of_vc lowm_want (by simp) ?_
    simp -implicitDefEqProofs only [Bm_want, wantR, outR, errV, go_sem, reduceIte, Nat.reduceEqDiff, Nat.reduceAdd, Nat.reduceLeDiff, Nat.reduceLT, decide_true, decide_false, vc_cond2, vcGrps_guard2, vcD_val2, vcD_guard2]
    exact Ext.refl _

theorem wf_set {S : Store} {l : Nat} {o : AObj} (h : WF S) (hl : l < S.n) (ho : nmO S.n o) : WF (S.set l (some o)) := fun j x e => by
  rw [Store.get_set] at e
  rw [Store.n_set]
  by_cases ej : j = l
  · subst ej; rw [if_pos rfl] at e; cases e; exact ⟨hl, ho⟩
  · rw [if_neg ej] at e; exact h j x e
theorem row_nm (n : Nat) {es : List Elem} (h : ∀ k ∈ es, good k) : nmO n (rowO es) := by
  simp only [rowO, nmO, nmL, nm, lstV, List.append_nil, and_true]; exact goods_nm es h n
/-- What a reader of a row does. -/
def RowFn (f : FuncId) (more : List AV) (rd : List Elem → Option AV × List Elem) : Prop := ∀ (S : Store) (l : Nat) (es : List Elem), (∀ k ∈ es, good k) → S.get l = some (rowO es) → Det prog f (.ptr l 0 :: more) S (outR (rd es).1) (S.set l (some (rowO (rd es).2)))

def nextR : List Elem → Option AV × List Elem
  | [] => (none, [])
  | e :: r => (some (.agg (encE e)), r)
theorem lst_len (es : List Elem) : (encEs es).length = es.length := encEs_length es
theorem cm_next : RowFn 191 [] nextR := by
  intro S l es hgd hg
  have h00 : ¬ (0 : Int) > 0 := by omega
  cases es with
  | nil =>
    simp only [nextR]
    rw [Store.set_self _ _ _ hg]
    refine Det.same (fun _ => errV_nm _) fun hw => acalls_of_vc lowm_row_next (by simp) ?_
    have hlt := (hw _ _ hg).1
    have q0 : ¬ l = S.n := by omega
    unfold rowO lstV at hg
    simp -implicitDefEqProofs only [Bm_row_next, hg, q0, encEs, List.nil_append, List.take_nil, h00, go_sem, reduceIte, Nat.reduceEqDiff, Nat.reduceAdd, Nat.reduceLeDiff, Nat.reduceLT, decide_true, decide_false, vc_cond2, vcGrps_guard2, vcD_val2, vcD_guard2]
    intro _
    refine (cm_want _ _).use ?_
    rw [show decide ((((0 : Nat) : Int)) > 0) = false from rfl]
    simp -implicitDefEqProofs only [wantR, outR, go_sem, reduceIte, Nat.reduceEqDiff, Nat.reduceAdd, Nat.reduceLeDiff, Nat.reduceLT, decide_true, decide_false, vc_cond2, vcGrps_guard2, vcD_val2, vcD_guard2]
    exact (Ext.refl S).push _
  | cons e r =>
    simp only [nextR, outR]
    have hge := hgd e (by simp)
    have hgr : ∀ k ∈ r, good k := fun k hk => hgd k (by simp [hk])
    refine Det.of (by rw [Store.n_set]) (fun hw => wf_set hw (hw _ _ hg).1 (row_nm _ hgr)) (fun _ => by simp only [AEnd.val, nm]; exact good_nm hge _) fun hw => acalls_of_vc lowm_row_next (by simp) ?_
    have hlt := (hw _ _ hg).1
    have q0 : ¬ l = S.n := by omega
    have q1 : ¬ l = S.n + 1 := by omega
    have hpos : ((r.length + 1 : Nat) : Int) > 0 := by omega
    have hl1 : 1 ≤ r.length + 1 := by omega
    have hl2 : r.length + 1 - 1 = r.length := by omega
    have hin : (0 : Int).toNat < r.length + 1 := by simp
    have h0 : (0 : Int) ≤ 0 := by decide
    have h1 : (0 : Int) ≤ 1 := by decide
    have ht0 : (0 : Int).toNat = 0 := rfl
    have ht1 : (1 : Int).toNat = 1 := rfl
    have htk : (encE e :: encEs r).take (r.length + 1) = encE e :: encEs r := by rw [← encEs_length r]; exact List.take_length (l := encE e :: encEs r)
    have hg' := hg
    unfold rowO lstV at hg
    unfold Bm_row_next
    refine vc_cut (fun fr T => fr 0 = .ptr l 0 ∧ fr 2 = .ptr S.n 0 ∧ Ext S T ∧ T.n = S.n + 1 ∧ T.get l = some (.box 201 [.sl 5 (encE e :: encEs r) (r.length + 1)]) ∧ T.get S.n = some (.box 68 ZE)) ?_ ?_
    · simp -implicitDefEqProofs only [hg, q0, encEs, List.append_nil, go_sem, reduceIte, Nat.reduceEqDiff, Nat.reduceAdd, Nat.reduceLeDiff, Nat.reduceLT, decide_true, decide_false, vc_cond2, vcGrps_guard2, vcD_val2, vcD_guard2]
      exact (Ext.refl S).push _
    rintro fr T ⟨f0, f2, hE, hn, g0, g1⟩
    refine vc_cut (fun fr U => fr 0 = .ptr l 0 ∧ fr 2 = .ptr S.n 0 ∧ U = T) ?_ ?_
    · simp -implicitDefEqProofs only [f0, f2, g0, htk, List.length_cons, encEs_length, go_sem, reduceIte, Nat.reduceEqDiff, Nat.reduceAdd, Nat.reduceLeDiff, Nat.reduceLT, decide_true, decide_false, vc_cond2, vcGrps_guard2, vcD_val2, vcD_guard2]
      intro _
      refine (cm_want _ _).use ?_
      rw [decide_eq_true hpos]
      simp -implicitDefEqProofs only [f0, f2, wantR, outR, go_sem, reduceIte, Nat.reduceEqDiff, Nat.reduceAdd, Nat.reduceLeDiff, Nat.reduceLT, decide_true, decide_false, vc_cond2, vcGrps_guard2, vcD_val2, vcD_guard2]
    clear f0 f2 fr
    rintro fr T ⟨f0, f2, rfl⟩
    have hin' : 0 < r.length + 1 := by omega
    refine vc_cut (fun fr U => fr 0 = .ptr l 0 ∧ fr 2 = .ptr S.n 0 ∧ fr 3 = .ptr (S.n + 1) 0 ∧ Ext S U ∧ U.get l = some (.box 201 [.sl 5 (encE e :: encEs r) (r.length + 1)]) ∧ U.get S.n = some (.box 68 ZE) ∧ U.get (S.n + 1) = some (.box 68 (encE e))) ?_ ?_
    · simp -implicitDefEqProofs only [f0, f2, g0, g1, hn, q0, q1, hin', h0, ht0, go_sem, reduceIte, Nat.reduceEqDiff, Nat.reduceAdd, Nat.reduceLeDiff, Nat.reduceLT, decide_true, decide_false, vc_cond2, vcGrps_guard2, vcD_val2, vcD_guard2]
      exact (hE.push _).set _ _ (by omega)
    clear hE hn g0 g1 f0 f2 fr T
    rintro fr T ⟨f0, f2, f3, hE, g0, g1, g2⟩
    have q2 : ¬ S.n = l := by omega
    have q3 : ¬ S.n + 1 = l := by omega
    have hl4 : r.length + 1 ≤ (encE e :: encEs r).length := by simp [encEs_length]
    simp -implicitDefEqProofs only [f0, f2, f3, g0, g1, g2, q0, q1, q2, q3, h1, ht1, hl1, hl2, hl4, List.drop_one, List.tail_cons, encEs_length, go_sem, reduceIte, Nat.reduceEqDiff, Nat.reduceAdd, Nat.reduceLeDiff, Nat.reduceLT, decide_true, decide_false, vc_cond2, vcGrps_guard2, vcD_val2, vcD_guard2]
    refine ⟨by have := hE.n; omega, fun j hj => ?_⟩
    rw [if_neg (by omega)]
    by_cases ej : j = l
    · subst ej; rw [if_pos rfl, if_pos rfl]; simp [rowO, lstV]
    · rw [if_neg ej, if_neg ej]; exact hE.get j hj
end Go.Proofs.YtajbeippbabhhaaGreatDoor.Eng

namespace Go.Proofs.YtajbeippbabhhaaGreatDoor.Eng
open Go Go.Proofs.Tryz

theorem set_row {S : Store} {l : Nat} {es : List Elem} (h : S.get l = some (rowO es)) : S.set l (some (rowO es)) = S := Store.set_self _ _ _ h
def isR (es : List Elem) (c t : Int) : Bool := match es with
  | [] => false
  | e :: _ => decide (e.cls = c) && decide (e.tag = t)
theorem cm_is (S : Store) (l : Nat) (es : List Elem) (c t : Int) (hg : S.get l = some (rowO es)) : Det prog 192 [.ptr l 0, .int .i64 c, .int .i64 t] S (.ret (.bool (isR es c t))) S := by
  refine Det.same (fun _ => by simp only [AEnd.val, nm]) fun hw => acalls_of_vc lowm_row_is (by simp) ?_
  unfold rowO lstV at hg
  cases es with
  | nil =>
    have h00 : ¬ ((0 : Nat) : Int) > 0 := by omega
    simp -implicitDefEqProofs only [Bm_row_is, hg, encEs, List.nil_append, List.take_nil, h00, decide_false, isR, go_sem, reduceIte, Nat.reduceEqDiff, Nat.reduceAdd, Nat.reduceLeDiff, Nat.reduceLT, decide_true, decide_false, vc_cond2, vcGrps_guard2, vcD_val2, vcD_guard2]
    exact fun _ => Ext.refl _
  | cons e r =>
    have hpos : ((r.length + 1 : Nat) : Int) > 0 := by omega
    have hin : 0 < r.length + 1 := by omega
    have h0 : (0 : Int) ≤ 0 := by decide
    have ht0 : (0 : Int).toNat = 0 := rfl
    have htk : (encE e :: encEs r).take (r.length + 1) = encE e :: encEs r := by rw [← encEs_length r]; exact List.take_length (l := encE e :: encEs r)
    by_cases hc : e.cls = c
    · simp -implicitDefEqProofs only [Bm_row_is, hg, encEs, List.append_nil, htk, List.length_cons, encEs_length, hpos, hin, h0, ht0, encE_take1, encE_drop1, eq_true hc, decide_true, Bool.true_and, isR, go_sem, reduceIte, Nat.reduceEqDiff, Nat.reduceAdd, Nat.reduceLeDiff, Nat.reduceLT, decide_true, decide_false, vc_cond2, vcGrps_guard2, vcD_val2, vcD_guard2]
      exact fun _ => Ext.refl _
    · simp -implicitDefEqProofs only [Bm_row_is, hg, encEs, List.append_nil, htk, List.length_cons, encEs_length, hpos, hin, h0, ht0, encE_take1, encE_drop1, eq_false hc, decide_false, Bool.false_and, isR, go_sem, reduceIte, Nat.reduceEqDiff, Nat.reduceAdd, Nat.reduceLeDiff, Nat.reduceLT, decide_true, decide_false, vc_cond2, vcGrps_guard2, vcD_val2, vcD_guard2]
      exact fun _ => Ext.refl _
theorem cm_ended (S : Store) (l : Nat) (es : List Elem) (hg : S.get l = some (rowO es)) : Det prog 194 [.ptr l 0] S (outR (wantR (decide (es.length = 0)))) S := by
  refine Det.same (fun _ => outR_nm fun v h => by unfold wantR at h; split at h <;> cases h; simp only [nm, nmL]) fun hw => acalls_of_vc lowm_row_ended (by simp) ?_
  unfold rowO lstV at hg
  have htk : (encEs es).take es.length = encEs es := by rw [← encEs_length es]; exact List.take_length
  simp -implicitDefEqProofs only [Bm_row_ended, hg, List.append_nil, htk, encEs_length, go_sem, reduceIte, Nat.reduceEqDiff, Nat.reduceAdd, Nat.reduceLeDiff, Nat.reduceLT, decide_true, decide_false, vc_cond2, vcGrps_guard2, vcD_val2, vcD_guard2]
  intro _
  refine (cm_want _ _).use ?_
  rw [show decide (((es.length : Nat) : Int) = 0) = decide (es.length = 0) by simp]
  cases decide (es.length = 0) <;> simp -implicitDefEqProofs only [wantR, outR, go_sem, reduceIte, Nat.reduceEqDiff, Nat.reduceAdd, Nat.reduceLeDiff, Nat.reduceLT, decide_true, decide_false, vc_cond2, vcGrps_guard2, vcD_val2, vcD_guard2] <;> exact Ext.refl _

def textR (e : Elem) (c t : Int) : Option AV := if isS e c t false = true then some (.str e.bytes) else none
theorem textR_nm {e : Elem} {c t : Int} {v : AV} (h : textR e c t = some v) (n : Nat) : nm n v := by
  unfold textR at h; split at h <;> cases h; simp only [nm]
theorem cm_text (e : Elem) (c t : Int) (S : Store) : Det prog 273 [.agg (encE e), .int .i64 c, .int .i64 t] S (outR (textR e c t)) S := by
  refine Det.same (fun _ => outR_nm fun v h => textR_nm h _) fun hw => acalls_of_vc lowm_text (by simp) ?_
  have hx := (Ext.refl S).push
  simp -implicitDefEqProofs only [Bm_text, go_sem, reduceIte, Nat.reduceEqDiff, Nat.reduceAdd, Nat.reduceLeDiff, Nat.reduceLT, decide_true, decide_false, vc_cond2, vcGrps_guard2, vcD_val2, vcD_guard2]
  refine (c32 e c t).use ?_
  have h24 : ¬ (24 : Int) = 0 := by decide
  by_cases h : isS e c t false = true
  · rw [show getStrS e c t = (e.bytes, 0) by simp [getStrS, h], show textR e c t = some (.str e.bytes) by simp [textR, h]]
    simp -implicitDefEqProofs only [decide_true, go_sem, reduceIte, Nat.reduceEqDiff, Nat.reduceAdd, Nat.reduceLeDiff, Nat.reduceLT, decide_true, decide_false, vc_cond2, vcGrps_guard2, vcD_val2, vcD_guard2]
    refine (cm_want _ _).use ?_
    simp -implicitDefEqProofs only [wantR, outR, go_sem, reduceIte, Nat.reduceEqDiff, Nat.reduceAdd, Nat.reduceLeDiff, Nat.reduceLT, decide_true, decide_false, vc_cond2, vcGrps_guard2, vcD_val2, vcD_guard2]
    exact hx _
  · rw [show getStrS e c t = ([], 24) by simp [getStrS, h], show textR e c t = none by simp [textR, h]]
    simp -implicitDefEqProofs only [eq_false h24, decide_false, go_sem, reduceIte, Nat.reduceEqDiff, Nat.reduceAdd, Nat.reduceLeDiff, Nat.reduceLT, decide_true, decide_false, vc_cond2, vcGrps_guard2, vcD_val2, vcD_guard2]
    refine (cm_want _ _).use ?_
    simp -implicitDefEqProofs only [wantR, outR, go_sem, reduceIte, Nat.reduceEqDiff, Nat.reduceAdd, Nat.reduceLeDiff, Nat.reduceLT, decide_true, decide_false, vc_cond2, vcGrps_guard2, vcD_val2, vcD_guard2]
    exact hx _

/-- A reader that takes the next element. -/
def takeR (f : Elem → Option AV) : List Elem → Option AV × List Elem
  | [] => (none, [])
  | e :: r => (f e, r)
theorem RowFn.mk {f : FuncId} {more : List AV} {rd : List Elem → Option AV × List Elem} (hgood : ∀ es, (∀ k ∈ es, good k) → ∀ k ∈ (rd es).2, good k) (hnm : ∀ es v n, (∀ k ∈ es, good k) → (rd es).1 = some v → nm n v)
    (h : ∀ (S : Store) (l : Nat) (es : List Elem), WF S → (∀ k ∈ es, good k) → S.get l = some (rowO es) → ACalls prog f (.ptr l 0 :: more) S fun r' S' => r' = outR (rd es).1 ∧ Ext (S.set l (some (rowO (rd es).2))) S') : RowFn f more rd := by
  intro S l es hgd hg
  refine Det.of (by rw [Store.n_set]) (fun hw => wf_set hw (hw _ _ hg).1 (row_nm _ (hgood es hgd))) (fun _ => outR_nm fun v hv => hnm es v _ hgd hv) fun hw => ?_
  exact ACalls.mono (h S l es hw hgd hg) fun r' S' ⟨h1, h2⟩ => ⟨h1, h2.n, fun j hj => h2.get j hj⟩
theorem takeR_good {f : Elem → Option AV} {es : List Elem} (h : ∀ k ∈ es, good k) : ∀ k ∈ (takeR f es).2, good k := by
  cases es with
  | nil => exact fun k hk => by cases hk
  | cons e r => exact fun k hk => h k (by simp only [takeR] at hk; simp [hk])

theorem cm_rstr : RowFn 279 [] (takeR fun e => textR e 0 4) := by
  refine RowFn.mk (fun es h => takeR_good h) (fun es v n h hv => by cases es <;> simp only [takeR] at hv <;> first | cases hv | exact textR_nm hv n) fun S l es hw hgd hg => acalls_of_vc lowm_row_str (by simp) ?_
  simp -implicitDefEqProofs only [Bm_row_str, go_sem, reduceIte, Nat.reduceEqDiff, Nat.reduceAdd, Nat.reduceLeDiff, Nat.reduceLT, decide_true, decide_false, vc_cond2, vcGrps_guard2, vcD_val2, vcD_guard2]
  refine (cm_next S l es hgd hg).use ?_
  cases es with
  | nil =>
    simp -implicitDefEqProofs only [nextR, outR, takeR, go_sem, reduceIte, Nat.reduceEqDiff, Nat.reduceAdd, Nat.reduceLeDiff, Nat.reduceLT, decide_true, decide_false, vc_cond2, vcGrps_guard2, vcD_val2, vcD_guard2]
    exact Ext.refl _
  | cons e r =>
    simp -implicitDefEqProofs only [nextR, outR, takeR, go_sem, reduceIte, Nat.reduceEqDiff, Nat.reduceAdd, Nat.reduceLeDiff, Nat.reduceLT, decide_true, decide_false, vc_cond2, vcGrps_guard2, vcD_val2, vcD_guard2]
    refine (cm_text e 0 4 _).use ?_
    cases textR e 0 4 with
    | none => simp -implicitDefEqProofs only [outR, go_sem, reduceIte, Nat.reduceEqDiff, Nat.reduceAdd, Nat.reduceLeDiff, Nat.reduceLT, decide_true, decide_false, vc_cond2, vcGrps_guard2, vcD_val2, vcD_guard2]; exact Ext.refl _
    | some v => simp -implicitDefEqProofs only [outR, go_sem, reduceIte, Nat.reduceEqDiff, Nat.reduceAdd, Nat.reduceLeDiff, Nat.reduceLT, decide_true, decide_false, vc_cond2, vcGrps_guard2, vcD_val2, vcD_guard2]; exact Ext.refl _

def numF (t : Int) (e : Elem) : Option AV := if (getIntS e 0 t).2 = 0 then some (.int .i64 (getIntS e 0 t).1) else none
theorem numF_nm {t : Int} {e : Elem} {v : AV} (h : numF t e = some v) (n : Nat) : nm n v := by
  unfold numF at h; split at h <;> cases h; simp only [nm]
theorem cm_rnum (t : Int) : RowFn 189 [.int .i64 t] (takeR (numF t)) := by
  refine RowFn.mk (fun es h => takeR_good h) (fun es v n h hv => by cases es <;> simp only [takeR] at hv <;> first | cases hv | exact numF_nm hv n) fun S l es hw hgd hg => acalls_of_vc lowm_row_num (by simp) ?_
  simp -implicitDefEqProofs only [Bm_row_num, go_sem, reduceIte, Nat.reduceEqDiff, Nat.reduceAdd, Nat.reduceLeDiff, Nat.reduceLT, decide_true, decide_false, vc_cond2, vcGrps_guard2, vcD_val2, vcD_guard2]
  refine (cm_next S l es hgd hg).use ?_
  cases es with
  | nil =>
    simp -implicitDefEqProofs only [nextR, outR, takeR, go_sem, reduceIte, Nat.reduceEqDiff, Nat.reduceAdd, Nat.reduceLeDiff, Nat.reduceLT, decide_true, decide_false, vc_cond2, vcGrps_guard2, vcD_val2, vcD_guard2]
    exact Ext.refl _
  | cons e r =>
    simp -implicitDefEqProofs only [nextR, outR, takeR, go_sem, reduceIte, Nat.reduceEqDiff, Nat.reduceAdd, Nat.reduceLeDiff, Nat.reduceLT, decide_true, decide_false, vc_cond2, vcGrps_guard2, vcD_val2, vcD_guard2]
    refine (c30 e 0 t).use ?_
    simp -implicitDefEqProofs only [go_sem, reduceIte, Nat.reduceEqDiff, Nat.reduceAdd, Nat.reduceLeDiff, Nat.reduceLT, decide_true, decide_false, vc_cond2, vcGrps_guard2, vcD_val2, vcD_guard2]
    refine (cm_want _ _).use ?_
    by_cases h : (getIntS e 0 t).2 = 0
    · rw [decide_eq_true h, show numF t e = some (.int .i64 (getIntS e 0 t).1) by simp [numF, h]]
      simp -implicitDefEqProofs only [wantR, outR, go_sem, reduceIte, Nat.reduceEqDiff, Nat.reduceAdd, Nat.reduceLeDiff, Nat.reduceLT, decide_true, decide_false, vc_cond2, vcGrps_guard2, vcD_val2, vcD_guard2]; exact Ext.refl _
    · rw [decide_eq_false h, show numF t e = none by simp [numF, h]]
      simp -implicitDefEqProofs only [wantR, outR, go_sem, reduceIte, Nat.reduceEqDiff, Nat.reduceAdd, Nat.reduceLeDiff, Nat.reduceLT, decide_true, decide_false, vc_cond2, vcGrps_guard2, vcD_val2, vcD_guard2]; exact Ext.refl _

def flagF (e : Elem) : Option AV := if (getBoolS e 0 1).2 = 0 then some (.bool (getBoolS e 0 1).1) else none
theorem flagF_nm {e : Elem} {v : AV} (h : flagF e = some v) (n : Nat) : nm n v := by
  unfold flagF at h; split at h <;> cases h; simp only [nm]
theorem cm_rflag : RowFn 292 [] (takeR flagF) := by
  refine RowFn.mk (fun es h => takeR_good h) (fun es v n h hv => by cases es <;> simp only [takeR] at hv <;> first | cases hv | exact flagF_nm hv n) fun S l es hw hgd hg => acalls_of_vc lowm_row_flag (by simp) ?_
  simp -implicitDefEqProofs only [Bm_row_flag, go_sem, reduceIte, Nat.reduceEqDiff, Nat.reduceAdd, Nat.reduceLeDiff, Nat.reduceLT, decide_true, decide_false, vc_cond2, vcGrps_guard2, vcD_val2, vcD_guard2]
  refine (cm_next S l es hgd hg).use ?_
  cases es with
  | nil =>
    simp -implicitDefEqProofs only [nextR, outR, takeR, go_sem, reduceIte, Nat.reduceEqDiff, Nat.reduceAdd, Nat.reduceLeDiff, Nat.reduceLT, decide_true, decide_false, vc_cond2, vcGrps_guard2, vcD_val2, vcD_guard2]
    exact Ext.refl _
  | cons e r =>
    simp -implicitDefEqProofs only [nextR, outR, takeR, go_sem, reduceIte, Nat.reduceEqDiff, Nat.reduceAdd, Nat.reduceLeDiff, Nat.reduceLT, decide_true, decide_false, vc_cond2, vcGrps_guard2, vcD_val2, vcD_guard2]
    refine (c34 e 0 1).use ?_
    simp -implicitDefEqProofs only [go_sem, reduceIte, Nat.reduceEqDiff, Nat.reduceAdd, Nat.reduceLeDiff, Nat.reduceLT, decide_true, decide_false, vc_cond2, vcGrps_guard2, vcD_val2, vcD_guard2]
    refine (cm_want _ _).use ?_
    by_cases h : (getBoolS e 0 1).2 = 0
    · rw [decide_eq_true h, show flagF e = some (.bool (getBoolS e 0 1).1) by simp [flagF, h]]
      simp -implicitDefEqProofs only [wantR, outR, go_sem, reduceIte, Nat.reduceEqDiff, Nat.reduceAdd, Nat.reduceLeDiff, Nat.reduceLT, decide_true, decide_false, vc_cond2, vcGrps_guard2, vcD_val2, vcD_guard2]; exact Ext.refl _
    · rw [decide_eq_false h, show flagF e = none by simp [flagF, h]]
      simp -implicitDefEqProofs only [wantR, outR, go_sem, reduceIte, Nat.reduceEqDiff, Nat.reduceAdd, Nat.reduceLeDiff, Nat.reduceLT, decide_true, decide_false, vc_cond2, vcGrps_guard2, vcD_val2, vcD_guard2]; exact Ext.refl _

def optR (t : Int) (es : List Elem) : Option AV × List Elem := match es with
  | [] => (some (.tup [.str [], .bool false]), [])
  | e :: r => if isR (e :: r) 2 t = true then ((textR e 2 t).map fun v => .tup [v, .bool true], r) else (some (.tup [.str [], .bool false]), e :: r)
theorem optR_good {t : Int} {es : List Elem} (h : ∀ k ∈ es, good k) : ∀ k ∈ (optR t es).2, good k := by
  cases es with
  | nil => exact fun k hk => by cases hk
  | cons e r =>
    intro k hk
    simp only [optR] at hk
    split at hk
    · exact h k (by simp [hk])
    · exact h k hk
theorem cm_ropt (t : Int) : RowFn 314 [.int .i64 t] (optR t) := by
  refine RowFn.mk (fun es h => optR_good h) (fun es v n h hv => by
    cases es with
    | nil => simp only [optR, Option.some.injEq] at hv; subst hv; simp only [nm, nmL, and_self]
    | cons e r =>
      simp only [optR] at hv
      split at hv
      · obtain ⟨x, hx, rfl⟩ := Option.map_eq_some_iff.1 hv
        simp only [nm, nmL, and_true]; exact textR_nm hx n
      · simp only [Option.some.injEq] at hv; subst hv; simp only [nm, nmL, and_self]) fun S l es hw hgd hg => acalls_of_vc lowm_row_opt (by simp) ?_
  simp -implicitDefEqProofs only [Bm_row_opt, go_sem, reduceIte, Nat.reduceEqDiff, Nat.reduceAdd, Nat.reduceLeDiff, Nat.reduceLT, decide_true, decide_false, vc_cond2, vcGrps_guard2, vcD_val2, vcD_guard2]
  refine (cm_is S l es 2 t hg).use ?_
  cases es with
  | nil =>
    simp -implicitDefEqProofs only [isR, optR, outR, go_sem, reduceIte, Nat.reduceEqDiff, Nat.reduceAdd, Nat.reduceLeDiff, Nat.reduceLT, decide_true, decide_false, vc_cond2, vcGrps_guard2, vcD_val2, vcD_guard2]
    rw [set_row hg]; exact Ext.refl _
  | cons e r =>
    simp only [optR]
    cases hi : isR (e :: r) 2 t with
    | false =>
      simp -implicitDefEqProofs only [outR, go_sem, reduceIte, Nat.reduceEqDiff, Nat.reduceAdd, Nat.reduceLeDiff, Nat.reduceLT, decide_true, decide_false, vc_cond2, vcGrps_guard2, vcD_val2, vcD_guard2]
      rw [set_row hg]; exact Ext.refl _
    | true =>
      simp -implicitDefEqProofs only [go_sem, reduceIte, Nat.reduceEqDiff, Nat.reduceAdd, Nat.reduceLeDiff, Nat.reduceLT, decide_true, decide_false, vc_cond2, vcGrps_guard2, vcD_val2, vcD_guard2]
      refine (cm_next S l _ hgd hg).use ?_
      simp -implicitDefEqProofs only [nextR, outR, go_sem, reduceIte, Nat.reduceEqDiff, Nat.reduceAdd, Nat.reduceLeDiff, Nat.reduceLT, decide_true, decide_false, vc_cond2, vcGrps_guard2, vcD_val2, vcD_guard2]
      refine (cm_text e 2 t _).use ?_
      cases textR e 2 t with
      | none => simp -implicitDefEqProofs only [outR, go_sem, reduceIte, Nat.reduceEqDiff, Nat.reduceAdd, Nat.reduceLeDiff, Nat.reduceLT, decide_true, decide_false, vc_cond2, vcGrps_guard2, vcD_val2, vcD_guard2]; exact Ext.refl _
      | some v => simp -implicitDefEqProofs only [outR, go_sem, reduceIte, Nat.reduceEqDiff, Nat.reduceAdd, Nat.reduceLeDiff, Nat.reduceLT, decide_true, decide_false, vc_cond2, vcGrps_guard2, vcD_val2, vcD_guard2]; exact Ext.refl _

/-! ## kids -/
theorem kidsS_good {e : Elem} {c t : Int} (h : good e) (hi : isS e c t true = true) : kidsS e c t = e.kids := by unfold kidsS; rw [if_pos hi, good_kids h.1]
theorem kid_good {e : Elem} (h : good e) : ∀ k ∈ e.kids, good k := fun k hk => by
  have h1 := good_kids h.1
  obtain ⟨_, _, _, _, h5⟩ := okE_eta h.2
  refine ⟨?_, h5 k hk⟩
  have key : ∀ (ks : List Elem), copyEs ks = ks → ∀ k ∈ ks, copyE k = k := by
    intro ks
    induction ks with
    | nil => intro _ k hk; cases hk
    | cons x ks ih =>
      intro e k hk
      simp only [copyEs, List.cons.injEq] at e
      rcases List.mem_cons.1 hk with rfl | hk
      · exact e.1
      · exact ih e.2 k hk
  exact key _ h1 k hk
theorem cm_kids_ok (e : Elem) (c t : Int) (S : Store) (h : good e) (hi : isS e c t true = true) : Det prog 188 [.agg (encE e), .int .i64 c, .int .i64 t] S (.ret (.ptr S.n 0)) (S.push (rowO e.kids)) := by
  refine Det.new (fun _ => row_nm _ (kid_good h)) fun hw => acalls_of_vc lowm_kids (by simp) ?_
  simp -implicitDefEqProofs only [Bm_kids, go_sem, reduceIte, Nat.reduceEqDiff, Nat.reduceAdd, Nat.reduceLeDiff, Nat.reduceLT, decide_true, decide_false, vc_cond2, vcGrps_guard2, vcD_val2, vcD_guard2]
  refine (c36 e c t h.2).use ?_
  rw [kidsS_good h hi, show kidsN e c t = 0 by simp [kidsN, hi]]
  simp -implicitDefEqProofs only [decide_true, go_sem, reduceIte, Nat.reduceEqDiff, Nat.reduceAdd, Nat.reduceLeDiff, Nat.reduceLT, decide_true, decide_false, vc_cond2, vcGrps_guard2, vcD_val2, vcD_guard2]
  refine (cm_want _ _).use ?_
  simp -implicitDefEqProofs only [wantR, outR, lstV, go_sem, reduceIte, Nat.reduceEqDiff, Nat.reduceAdd, Nat.reduceLeDiff, Nat.reduceLT, decide_true, decide_false, vc_cond2, vcGrps_guard2, vcD_val2, vcD_guard2]
  exact ⟨((Ext.refl S).push _).push _, S.n + 1, by omega, rfl, by simp [Store.get_push, Store.n_push, rowO, lstV]⟩
theorem cm_kids_no (e : Elem) (c t : Int) (S : Store) (h : good e) (hi : isS e c t true = false) : Det prog 188 [.agg (encE e), .int .i64 c, .int .i64 t] S (.pan errV) S := by
  have h24 : ¬ (24 : Int) = 0 := by decide
  refine Det.same (fun _ => errV_nm _) fun hw => acalls_of_vc lowm_kids (by simp) ?_
  simp -implicitDefEqProofs only [Bm_kids, go_sem, reduceIte, Nat.reduceEqDiff, Nat.reduceAdd, Nat.reduceLeDiff, Nat.reduceLT, decide_true, decide_false, vc_cond2, vcGrps_guard2, vcD_val2, vcD_guard2]
  refine (c36 e c t h.2).use ?_
  rw [show kidsS e c t = [] by simp [kidsS, hi], show kidsN e c t = 24 by simp [kidsN, hi]]
  simp -implicitDefEqProofs only [eq_false h24, decide_false, go_sem, reduceIte, Nat.reduceEqDiff, Nat.reduceAdd, Nat.reduceLeDiff, Nat.reduceLT, decide_true, decide_false, vc_cond2, vcGrps_guard2, vcD_val2, vcD_guard2]
  refine (cm_want _ _).use ?_
  simp -implicitDefEqProofs only [wantR, outR, lstV, go_sem, reduceIte, Nat.reduceEqDiff, Nat.reduceAdd, Nat.reduceLeDiff, Nat.reduceLT, decide_true, decide_false, vc_cond2, vcGrps_guard2, vcD_val2, vcD_guard2]
  exact (Ext.refl S).push _
end Go.Proofs.YtajbeippbabhhaaGreatDoor.Eng

namespace Go.Proofs.YtajbeippbabhhaaGreatDoor.Eng
open Go Go.Proofs.Tryz

/-! ## A delete request is read -/
theorem text_ok {e : Elem} {c t : Int} (h : isS e c t false = true) : Pure prog 273 [.agg (encE e), .int .i64 c, .int .i64 t] (.str e.bytes) := fun S => by
  have := cm_text e c t S
  rw [show textR e c t = some (.str e.bytes) by simp [textR, h]] at this
  exact this
theorem mv_nm {n : Nat} {v : MV} (h1 : nm n v.filter) (h2 : nm n v.select) (h3 : nm n v.mods) (h4 : nm n v.attrs) (h5 : nm n v.controls) : nmL n v.enc := by
  simp only [MV.enc, nmL, nm, h1, h2, h3, h4, h5, and_self]
theorem mv_nm' {n : Nat} {v : MV} (h : nmL n v.enc) : nm n v.filter ∧ nm n v.select ∧ nm n v.mods ∧ nm n v.attrs ∧ nm n v.controls := by
  simp only [MV.enc, nmL, nm, true_and, and_true] at h
  exact h

set_option maxHeartbeats 1000000 in
theorem cm_opOf_del (d : Elem) (v : MV) (S : Store) (l : Nat) (hg : S.get l = some (.box 28 v.enc)) (ht : d.tag = 10) (hi : isS d 1 10 false = true) :
    Det prog 190 [.ptr l 0, .agg (encE d)] S (.ret (.tup [])) (S.set l (some (.box 28 ((v.s1 10).s2 d.bytes).enc))) := by
  refine Det.of (by rw [Store.n_set]) (fun hw => wf_set hw (hw _ _ hg).1 (by
    have := (hw _ _ hg).2
    simp only [nmO] at this ⊢
    obtain ⟨a1, a2, a3, a4, a5⟩ := mv_nm' this
    exact mv_nm a1 a2 a3 a4 a5)) (fun _ => by simp only [AEnd.val, nm, nmL]) fun hw => acalls_of_vc lowm_opOf (by simp) ?_
  have hlt := (hw _ _ hg).1
  have q0 : ¬ l = S.n := by omega
  have q1 : ¬ l = S.n + 1 := by omega
  have q2 : ¬ S.n = l := by omega
  have q3 : ¬ S.n + 1 = l := by omega
  have n2 : ¬ (10 : Int) = 2 := by decide
  have e1 : (encE d).drop 1 = [.int .i64 10, .bool d.cons, .str d.bytes, .sl 5 (encEs d.kids ++ d.ext) d.kids.length] := by rw [encE_drop1, ht]
  unfold Bm_opOf
  refine vc_cut (fun fr T => fr 2 = .ptr S.n 0 ∧ fr 3 = .ptr (S.n + 1) 0 ∧ Ext S T ∧ T.get l = some (.box 28 v.enc) ∧ T.get S.n = some (.box 110 [.ptr l 0]) ∧ T.get (S.n + 1) = some (.box 68 (encE d))) ?_ ?_
  · simp -implicitDefEqProofs only [hg, q0, q1, go_sem, reduceIte, Nat.reduceEqDiff, Nat.reduceAdd, Nat.reduceLeDiff, Nat.reduceLT, decide_true, decide_false, vc_cond2, vcGrps_guard2, vcD_val2, vcD_guard2]
    exact ((Ext.refl S).push _).push _
  rintro fr T ⟨f2, f3, hE, g0, g1, g2⟩
  refine vc_cut (fun fr U => fr 2 = .ptr S.n 0 ∧ fr 3 = .ptr (S.n + 1) 0 ∧ U = T.set l (some (.box 28 (v.s1 10).enc))) ?_ ?_
  · simp -implicitDefEqProofs only [f2, f3, g0, g1, g2, e1, go_sem, reduceIte, Nat.reduceEqDiff, Nat.reduceAdd, Nat.reduceLeDiff, Nat.reduceLT, decide_true, decide_false, vc_cond2, vcGrps_guard2, vcD_val2, vcD_guard2]
  rintro fr' U ⟨f2', f3', rfl⟩
  refine vc_cut (fun fr U => False) ?_ (fun _ _ h => h.elim)
  have hop : (v.s1 10).op = 10 := rfl
  simp -implicitDefEqProofs only [f2', f3', g0, g1, g2, q0, q1, q2, q3, hop, eq_false n2, decide_true, decide_false, go_sem, reduceIte, Nat.reduceEqDiff, Nat.reduceAdd, Nat.reduceLeDiff, Nat.reduceLT, decide_true, decide_false, vc_cond2, vcGrps_guard2, vcD_val2, vcD_guard2]
  refine vcDO_by _ _ _ _ _ _ _ _ _ _ _ (text_ok hi) ?_
  simp -implicitDefEqProofs only [f2', f3', g0, g1, g2, q0, q1, q2, q3, hop, decide_true, decide_false, go_sem, reduceIte, Nat.reduceEqDiff, Nat.reduceAdd, Nat.reduceLeDiff, Nat.reduceLT, decide_true, decide_false, vc_cond2, vcGrps_guard2, vcD_val2, vcD_guard2]
  refine ⟨hE.n, fun j hj => ?_⟩
  by_cases ej : j = l
  · subst ej; rw [if_pos rfl, if_pos rfl]
  · rw [if_neg ej, if_neg ej, if_neg ej]; exact hE.get j hj

def delM (id : Int) (dn : Byt) : Msg := { Msg.zero with id := id, op := 10, dn := dn }
theorem zero_nm (n : Nat) : nmL n MV.zero.enc := mv_nm (by simp only [MV.zero, nm]) (by simp only [MV.zero, nm]) (by simp only [MV.zero, nm]) (by simp only [MV.zero, nm]) (by simp only [MV.zero, nm])
set_option maxHeartbeats 1000000 in
theorem cm_told_del (e a d : Elem) (h : good e) (hs : isS e 0 16 true = true) (hk : e.kids = [a, d]) (id : Int) (hid : numF 2 a = some (.int .i64 id)) (ht : d.tag = 10) (hd : isS d 1 10 false = true) :
    Pure prog 52 [.agg (encE e)] (.agg (delM id d.bytes).enc) := by
  refine Pure.outA (fun n _ => by rw [msg_nm]; simp only [delM, Msg.zero, encT, List.map_nil, List.append_nil, nmLL, and_self]) fun S => acalls_of_vc lowm_told (by simp) ?_
  have hgk := kid_good h
  rw [hk] at hgk
  unfold Bm_told
  refine vc_cut (fun fr T => fr 1 = .ptr S.n 0 ∧ fr 2 = .ptr (S.n + 1) 0 ∧ Ext S T ∧ T.n = S.n + 2 ∧ T.get S.n = some (.box 68 (encE e)) ∧ T.get (S.n + 1) = some (.box 28 MV.zero.enc)) ?_ ?_
  · simp -implicitDefEqProofs only [go_sem, reduceIte, Nat.reduceEqDiff, Nat.reduceAdd, Nat.reduceLeDiff, Nat.reduceLT, decide_true, decide_false, vc_cond2, vcGrps_guard2, vcD_val2, vcD_guard2]
    exact ((Ext.refl S).push _).push _
  rintro fr T ⟨f1, f2, hE, hn, g0, g1⟩
  refine vc_cut (fun fr T => fr 1 = .ptr S.n 0 ∧ fr 2 = .ptr (S.n + 1) 0 ∧ fr 3 = .ptr (S.n + 2) 0 ∧ Ext S T ∧ T.n = S.n + 3 ∧ T.get S.n = some (.box 68 (encE e)) ∧ T.get (S.n + 1) = some (.box 28 MV.zero.enc) ∧ T.get (S.n + 2) = some (.box 28 MV.zero.enc)) ?_ ?_
  · simp -implicitDefEqProofs only [f1, f2, hn, g0, g1, Nat.reduceEqDiff, go_sem, reduceIte, Nat.reduceEqDiff, Nat.reduceAdd, Nat.reduceLeDiff, Nat.reduceLT, decide_true, decide_false, vc_cond2, vcGrps_guard2, vcD_val2, vcD_guard2]
    exact hE.push _
  clear hE hn g0 g1 f1 f2 fr T
  rintro fr T ⟨f1, f2, f3, hE, hn, g0, g1, g2⟩
  have hrow : rowO e.kids = rowO [a, d] := by rw [hk]
  refine vc_cut (fun fr T => fr 2 = .ptr (S.n + 1) 0 ∧ fr 3 = .ptr (S.n + 2) 0 ∧ fr 4 = .ptr (S.n + 3) 0 ∧ Ext S T ∧ T.n = S.n + 4 ∧ T.get (S.n + 1) = some (.box 28 MV.zero.enc) ∧ T.get (S.n + 2) = some (.box 28 MV.zero.enc) ∧ T.get (S.n + 3) = some (rowO [a, d])) ?_ ?_
  · simp -implicitDefEqProofs only [f1, f2, f3, g0, g1, g2, go_sem, reduceIte, Nat.reduceEqDiff, Nat.reduceAdd, Nat.reduceLeDiff, Nat.reduceLT, decide_true, decide_false, vc_cond2, vcGrps_guard2, vcD_val2, vcD_guard2]
    refine (cm_kids_ok e 0 16 T h hs).use ?_
    simp -implicitDefEqProofs only [f1, f2, f3, hn, g0, g1, g2, hrow, Nat.reduceEqDiff, go_sem, reduceIte, Nat.reduceEqDiff, Nat.reduceAdd, Nat.reduceLeDiff, Nat.reduceLT, decide_true, decide_false, vc_cond2, vcGrps_guard2, vcD_val2, vcD_guard2]
    exact hE.push _
  clear hE hn g0 g1 g2 f1 f2 f3 fr T
  rintro fr T ⟨f2, f3, f4, hE, hn, g1, g2, g3⟩
  refine vc_cut (fun fr T => fr 2 = .ptr (S.n + 1) 0 ∧ fr 3 = .ptr (S.n + 2) 0 ∧ fr 4 = .ptr (S.n + 3) 0 ∧ Ext S T ∧ T.n = S.n + 4 ∧ T.get (S.n + 1) = some (.box 28 MV.zero.enc) ∧ T.get (S.n + 2) = some (.box 28 (MV.zero.s0 id).enc) ∧ T.get (S.n + 3) = some (rowO [d])) ?_ ?_
  · simp -implicitDefEqProofs only [f2, f3, f4, g1, g2, g3, go_sem, reduceIte, Nat.reduceEqDiff, Nat.reduceAdd, Nat.reduceLeDiff, Nat.reduceLT, decide_true, decide_false, vc_cond2, vcGrps_guard2, vcD_val2, vcD_guard2]
    refine (cm_rnum 2 T (S.n + 3) [a, d] hgk g3).use ?_
    simp only [takeR, hid, outR]
    simp -implicitDefEqProofs only [f2, f3, f4, hn, g1, g2, g3, Nat.reduceEqDiff, go_sem, reduceIte, Nat.reduceEqDiff, Nat.reduceAdd, Nat.reduceLeDiff, Nat.reduceLT, decide_true, decide_false, vc_cond2, vcGrps_guard2, vcD_val2, vcD_guard2]
    exact (hE.set _ _ (by omega)).set _ _ (by omega)
  clear hE hn g1 g2 g3 f2 f3 f4 fr T
  rintro fr T ⟨f2, f3, f4, hE, hn, g1, g2, g3⟩
  refine vc_cut (fun fr T => fr 2 = .ptr (S.n + 1) 0 ∧ fr 3 = .ptr (S.n + 2) 0 ∧ fr 4 = .ptr (S.n + 3) 0 ∧ Ext S T ∧ T.n = S.n + 4 ∧ T.get (S.n + 1) = some (.box 28 MV.zero.enc) ∧ T.get (S.n + 2) = some (.box 28 (((MV.zero.s0 id).s1 10).s2 d.bytes).enc) ∧ T.get (S.n + 3) = some (rowO [])) ?_ ?_
  · simp -implicitDefEqProofs only [f2, f3, f4, g1, g2, g3, go_sem, reduceIte, Nat.reduceEqDiff, Nat.reduceAdd, Nat.reduceLeDiff, Nat.reduceLT, decide_true, decide_false, vc_cond2, vcGrps_guard2, vcD_val2, vcD_guard2]
    refine (cm_next T (S.n + 3) [d] (fun k hk => hgk k (by simp at hk; simp [hk])) g3).use ?_
    simp only [nextR, outR]
    simp -implicitDefEqProofs only [f2, f3, f4, hn, g1, g2, g3, Nat.reduceEqDiff, go_sem, reduceIte, Nat.reduceEqDiff, Nat.reduceAdd, Nat.reduceLeDiff, Nat.reduceLT, decide_true, decide_false, vc_cond2, vcGrps_guard2, vcD_val2, vcD_guard2]
    have g2' : (T.set (S.n + 3) (some (rowO []))).get (S.n + 2) = some (.box 28 (MV.zero.s0 id).enc) := by rw [Store.get_set_ne _ _ (by omega)]; exact g2
    refine (cm_opOf_del d _ _ (S.n + 2) g2' ht hd).use ?_
    simp -implicitDefEqProofs only [f2, f3, f4, hn, g1, g2, g3, Nat.reduceEqDiff, go_sem, reduceIte, Nat.reduceEqDiff, Nat.reduceAdd, Nat.reduceLeDiff, Nat.reduceLT, decide_true, decide_false, vc_cond2, vcGrps_guard2, vcD_val2, vcD_guard2]
    exact (hE.set _ _ (by omega)).set _ _ (by omega)
  clear hE hn g1 g2 g3 f2 f3 f4 fr T
  rintro fr T ⟨f2, f3, f4, hE, hn, g1, g2, g3⟩
  refine vc_cut (fun fr U => fr 2 = .ptr (S.n + 1) 0 ∧ fr 3 = .ptr (S.n + 2) 0 ∧ fr 4 = .ptr (S.n + 3) 0 ∧ U = T) ?_ ?_
  · simp -implicitDefEqProofs only [f2, f3, f4, g1, g2, g3, go_sem, reduceIte, Nat.reduceEqDiff, Nat.reduceAdd, Nat.reduceLeDiff, Nat.reduceLT, decide_true, decide_false, vc_cond2, vcGrps_guard2, vcD_val2, vcD_guard2]
    refine (cm_is T (S.n + 3) [] 2 0 g3).use ?_
    simp -implicitDefEqProofs only [isR, f2, f3, f4, g1, g2, g3, go_sem, reduceIte, Nat.reduceEqDiff, Nat.reduceAdd, Nat.reduceLeDiff, Nat.reduceLT, decide_true, decide_false, vc_cond2, vcGrps_guard2, vcD_val2, vcD_guard2]
  clear f2 f3 f4 fr
  rintro fr T ⟨f2, f3, f4, rfl⟩
  simp -implicitDefEqProofs only [f2, f3, f4, g1, g2, g3, go_sem, reduceIte, Nat.reduceEqDiff, Nat.reduceAdd, Nat.reduceLeDiff, Nat.reduceLT, decide_true, decide_false, vc_cond2, vcGrps_guard2, vcD_val2, vcD_guard2]
  refine (cm_ended T (S.n + 3) [] g3).use ?_
  simp only [List.length_nil, decide_true, wantR, if_true, outR]
  simp -implicitDefEqProofs only [f2, f3, f4, g1, g2, g3, Nat.reduceEqDiff, go_sem, reduceIte, Nat.reduceEqDiff, Nat.reduceAdd, Nat.reduceLeDiff, Nat.reduceLT, decide_true, decide_false, vc_cond2, vcGrps_guard2, vcD_val2, vcD_guard2]
  refine ⟨hE.set _ _ (by omega), .inl ⟨_, rfl, ?_⟩⟩
  exact MV.wk _ _ (nil_nil 7) (nil_nil 1) (nil_nil 3) (nil_nil 2) (nil_nil 4) rfl
end Go.Proofs.YtajbeippbabhhaaGreatDoor.Eng

namespace Go.Proofs.YtajbeippbabhhaaGreatDoor.Eng
open Go Go.Proofs.Tryz

/-! ## What gives up by a panic is called -/
theorem dm_n (S : Store) (p : Nat) : ADef prog 187 [.ptr p 0] S none fun S' => S' = S := by
  refine adef_of_vc (lc := PDm_reads_1) func187 rfl rfl rfl rfl rfl rfl rfl (by decide) (by decide) (by unfold PDm_reads_1; kernel_rfl) rfl (by show 1 ≤ f187.ntmps; decide) ?_
  simp -implicitDefEqProofs only [PDm_reads_1, mV, QDef, go_sem, reduceIte, Nat.reduceEqDiff, Nat.reduceAdd, Nat.reduceLeDiff, Nat.reduceLT, decide_true, decide_false, vc_cond2, vcGrps_guard2, vcD_val2, vcD_guard2]
theorem dm_s (S : Store) (p : Nat) (t : TypeId) (x : AV) (hp : S.get p = some (.box t [x])) : ADef prog 187 [.ptr p 0] S (some errV) fun S' => S' = S.set p (some (.box t [.bool false])) := by
  refine adef_of_vc (lc := PDm_reads_1) func187 rfl rfl rfl rfl rfl rfl rfl (by decide) (by decide) (by unfold PDm_reads_1; kernel_rfl) rfl (by show 1 ≤ f187.ntmps; decide) ?_
  simp -implicitDefEqProofs only [PDm_reads_1, mV, QDef, errV, hp, go_sem, reduceIte, Nat.reduceEqDiff, Nat.reduceAdd, Nat.reduceLeDiff, Nat.reduceLT, decide_true, decide_false, vc_cond2, vcGrps_guard2, vcD_val2, vcD_guard2]
theorem hasR1 : hasBody prog 187 = true := by kernel_rfl
def okO : AObj := .box 4 [.bool false]
theorem cm_reads (g : FuncId) (cap : List AV) (S T : Store) (b : Bool) (hb : hasBody prog g = true) (hn : T.n = S.n) (hwf : WF S → WF T)
    (hdo : ACalls prog g cap (S.push okO) fun r' S' => r' = (if b then .ret (.tup []) else .pan errV) ∧ S'.get S.n = some okO ∧ S.n + 1 ≤ S'.n ∧ ∀ l, l < S.n → S'.get l = T.get l) :
    Det prog 50 [.fn (.func g) cap] S (.ret (.bool b)) T := by
  refine Det.of hn hwf (fun _ => by simp only [AEnd.val, nm]) fun hw => ?_
  refine acalls_of_defer (l0 := PAm_reads) (l1 := PBm_reads) func50 rfl (by unfold PAm_reads; kernel_rfl) (by unfold PBm_reads; kernel_rfl) (rs := [.cell 2 false 1]) (by kernel_rfl) rfl rfl rfl rfl hasR1 rfl rfl rfl (by decide) (by show 1 ≤ f50.ntmps; decide) ?_
  simp -implicitDefEqProofs only [PAm_reads, PBm_reads, QFst, hb, List.nil_append, go_sem, reduceIte, Nat.reduceEqDiff, Nat.reduceAdd, Nat.reduceLeDiff, Nat.reduceLT, decide_true, decide_false, vc_cond2, vcGrps_guard2, vcD_val2, vcD_guard2]
  refine hdo.mono ?_
  rintro r U ⟨rfl, h1, h2, h3⟩
  unfold okO at h1
  cases b with
  | true =>
    simp -implicitDefEqProofs only [QPut, h1, go_sem, reduceIte, Nat.reduceEqDiff, Nat.reduceAdd, Nat.reduceLeDiff, Nat.reduceLT, decide_true, decide_false, vc_cond2, vcGrps_guard2, vcD_val2, vcD_guard2]
    refine (dm_n _ _).mono ?_
    rintro V rfl
    simp -implicitDefEqProofs only [h1, go_sem, reduceIte, Nat.reduceEqDiff, Nat.reduceAdd, Nat.reduceLeDiff, Nat.reduceLT, decide_true, decide_false, vc_cond2, vcGrps_guard2, vcD_val2, vcD_guard2]
    refine ⟨by omega, fun j hj => ?_⟩
    rw [if_neg (by omega)]; exact h3 j hj
  | false =>
    simp -implicitDefEqProofs only [QPut, h1, go_sem, reduceIte, Nat.reduceEqDiff, Nat.reduceAdd, Nat.reduceLeDiff, Nat.reduceLT, decide_true, decide_false, vc_cond2, vcGrps_guard2, vcD_val2, vcD_guard2]
    refine (dm_s _ _ _ _ h1).mono ?_
    rintro V rfl
    simp -implicitDefEqProofs only [h1, go_sem, reduceIte, Nat.reduceEqDiff, Nat.reduceAdd, Nat.reduceLeDiff, Nat.reduceLT, decide_true, decide_false, vc_cond2, vcGrps_guard2, vcD_val2, vcD_guard2]
    refine ⟨by omega, fun j hj => ?_⟩
    rw [if_neg (by omega)]; exact h3 j hj

/-! ## Read -/
set_option maxHeartbeats 1000000 in
theorem cm_Read_ok (b : List UInt8) (e : Elem) (m : Msg) (fv : Bool) (hr : readS b = (e, 0)) (h : good e) (ht : Pure prog 52 [.agg (encE e)] (.agg m.enc)) (hnm : ∀ n, nmL n m.enc)
    (hml : m.mods.length ≤ maxB) (hcl : m.controls.length ≤ maxB) (hf : m.op = 3 → Pure prog 179 [filV m.filter m.filX] (.bool fv)) (hv : validB fv m = true) :
    Pure prog 18 [.str b] (.tup [.agg m.enc, .int .i64 0]) := by
  refine Pure.outA (fun n _ => by simp only [nm, nmL, and_true]; exact hnm n) fun S => acalls_of_vc lowm_Read (by simp) ?_
  have hb51 : hasBody prog 51 = true := by kernel_rfl
  have hc40 := c40 b
  rw [hr] at hc40
  unfold Bm_Read
  refine vc_cut (fun fr T => fr 0 = .str b ∧ fr 2 = .ptr S.n 0 ∧ Ext S T ∧ T.n = S.n + 1 ∧ T.get S.n = some (.box 28 MV.zero.enc)) ?_ ?_
  · simp -implicitDefEqProofs only [go_sem, reduceIte, Nat.reduceEqDiff, Nat.reduceAdd, Nat.reduceLeDiff, Nat.reduceLT, decide_true, decide_false, vc_cond2, vcGrps_guard2, vcD_val2, vcD_guard2]
    exact (Ext.refl S).push _
  rintro fr T ⟨f0, f2, hE, hn, g0⟩
  refine vc_cut (fun fr T => fr 2 = .ptr S.n 0 ∧ fr 4 = .ptr (S.n + 1) 0 ∧ fr 5 = .int .i64 0 ∧ Ext S T ∧ T.n = S.n + 2 ∧ T.get S.n = some (.box 28 MV.zero.enc) ∧ T.get (S.n + 1) = some (.box 68 (encE e))) ?_ ?_
  · simp -implicitDefEqProofs only [f0, f2, hn, g0, go_sem, reduceIte, Nat.reduceEqDiff, Nat.reduceAdd, Nat.reduceLeDiff, Nat.reduceLT, decide_true, decide_false, vc_cond2, vcGrps_guard2, vcD_val2, vcD_guard2]
    refine hc40.use ?_
    have hc0 : ((0 : Nat) : Int) = 0 := rfl
    simp -implicitDefEqProofs only [f0, f2, hn, g0, hc0, Nat.reduceEqDiff, go_sem, reduceIte, Nat.reduceEqDiff, Nat.reduceAdd, Nat.reduceLeDiff, Nat.reduceLT, decide_true, decide_false, vc_cond2, vcGrps_guard2, vcD_val2, vcD_guard2]
    exact (hE.push _).set _ _ (by omega)
  clear hE hn g0 f0 f2 fr T
  rintro fr T ⟨f2, f4, f5, hE, hn, g0, g1⟩
  refine vc_cut (fun fr U => fr 2 = .ptr S.n 0 ∧ fr 4 = .ptr (S.n + 1) 0 ∧ U = T) ?_ ?_
  · simp -implicitDefEqProofs only [f2, f4, f5, ne_eq, not_true_eq_false, decide_false, go_sem, reduceIte, Nat.reduceEqDiff, Nat.reduceAdd, Nat.reduceLeDiff, Nat.reduceLT, decide_true, decide_false, vc_cond2, vcGrps_guard2, vcD_val2, vcD_guard2]
  clear f2 f4 f5 fr
  rintro fr T ⟨f2, f4, rfl⟩
  refine vc_cut (fun fr T => fr 2 = .ptr S.n 0 ∧ fr 4 = .ptr (S.n + 1) 0 ∧ fr 6 = .ptr (S.n + 2) 0 ∧ Ext S T ∧ T.n = S.n + 3 ∧ T.get S.n = some (.box 28 MV.zero.enc) ∧ T.get (S.n + 1) = some (.box 68 (encE e)) ∧ T.get (S.n + 2) = some (.box 28 MV.zero.enc)) ?_ ?_
  · simp -implicitDefEqProofs only [f2, f4, hn, g0, g1, Nat.reduceEqDiff, go_sem, reduceIte, Nat.reduceEqDiff, Nat.reduceAdd, Nat.reduceLeDiff, Nat.reduceLT, decide_true, decide_false, vc_cond2, vcGrps_guard2, vcD_val2, vcD_guard2]
    exact hE.push _
  clear hE hn g0 g1 f2 f4 fr T
  rintro fr T ⟨f2, f4, f6, hE, hn, g0, g1, g2⟩
  refine vc_cut (fun fr T => fr 2 = .ptr S.n 0 ∧ fr 6 = .ptr (S.n + 2) 0 ∧ Ext S T ∧ T.get S.n = some (.box 28 MV.zero.enc) ∧ T.get (S.n + 2) = some (.box 28 m.mv.enc)) ?_ ?_
  · simp -implicitDefEqProofs only [f2, f4, f6, g0, g1, g2, go_sem, reduceIte, Nat.reduceEqDiff, Nat.reduceAdd, Nat.reduceLeDiff, Nat.reduceLT, decide_true, decide_false, vc_cond2, vcGrps_guard2, vcD_val2, vcD_guard2]
    have hwT : WF T → WF (T.set (S.n + 2) (some (.box 28 m.mv.enc))) := fun hw => wf_set hw (by omega) (by simp only [nmO]; rw [← Msg.enc_mv]; exact hnm _)
    refine (cm_reads 51 [.ptr (S.n + 1) 0, .ptr (S.n + 2) 0] T (T.set (S.n + 2) (some (.box 28 m.mv.enc))) true hb51 (by rw [Store.n_set]) hwT ?_).use ?_
    · refine acalls_of_vc lowm_Read_1 (by simp) ?_
      have q1 : ¬ S.n + 1 = T.n := by omega
      have q2 : ¬ S.n + 2 = T.n := by omega
      have q3 : ¬ T.n = S.n + 2 := by omega
      simp -implicitDefEqProofs only [Bm_Read_1, okO, hn, g0, g1, g2, Nat.reduceEqDiff, go_sem, reduceIte, Nat.reduceEqDiff, Nat.reduceAdd, Nat.reduceLeDiff, Nat.reduceLT, decide_true, decide_false, vc_cond2, vcGrps_guard2, vcD_val2, vcD_guard2]
      refine ht.use ?_
      simp -implicitDefEqProofs only [okO, hn, g0, g1, g2, Nat.reduceEqDiff, go_sem, reduceIte, Nat.reduceEqDiff, Nat.reduceAdd, Nat.reduceLeDiff, Nat.reduceLT, decide_true, decide_false, vc_cond2, vcGrps_guard2, vcD_val2, vcD_guard2]
      refine fun j hj => ?_
      by_cases e2 : j = S.n + 2
      · subst e2; rw [if_pos rfl, if_pos rfl]
      · rw [if_neg e2, if_neg e2, if_neg (by omega)]
    · simp -implicitDefEqProofs only [f2, f4, f6, hn, g0, g1, g2, Nat.reduceEqDiff, go_sem, reduceIte, Nat.reduceEqDiff, Nat.reduceAdd, Nat.reduceLeDiff, Nat.reduceLT, decide_true, decide_false, vc_cond2, vcGrps_guard2, vcD_val2, vcD_guard2]
      refine (cm_Valid m fv hml hcl hf).use ?_
      rw [hv]
      simp -implicitDefEqProofs only [f2, f4, f6, hn, g0, g1, g2, Nat.reduceEqDiff, go_sem, reduceIte, Nat.reduceEqDiff, Nat.reduceAdd, Nat.reduceLeDiff, Nat.reduceLT, decide_true, decide_false, vc_cond2, vcGrps_guard2, vcD_val2, vcD_guard2]
      exact hE.set _ _ (by omega)
  clear hE hn g0 g1 g2 f2 f4 f6 fr T
  rintro fr T ⟨f2, f6, hE, g0, g2⟩
  simp -implicitDefEqProofs only [f2, f6, g0, g2, go_sem, reduceIte, Nat.reduceEqDiff, Nat.reduceAdd, Nat.reduceLeDiff, Nat.reduceLT, decide_true, decide_false, vc_cond2, vcGrps_guard2, vcD_val2, vcD_guard2]
  exact ⟨hE.set _ _ (by omega), .inl ⟨_, rfl, Wk.refl _⟩⟩
end Go.Proofs.YtajbeippbabhhaaGreatDoor.Eng

namespace Go.Proofs.YtajbeippbabhhaaGreatDoor.Eng
open Go Go.Proofs.Tryz

/-! ## alive -/
def aliveM : Msg := { Msg.zero with id := 2, version := 3, secret := [115] }
def aliveW : List UInt8 := [48, 13, 2, 1, 2, 96, 8, 2, 1, 3, 4, 0, 128, 1, 115]
def aliveB : List UInt8 := [48, 9, 2, 1, 1, 74, 4, 100, 99, 61, 122]
def aliveE : Elem := .mk 0 16 true [] [.mk 0 2 false [1] [] [], .mk 1 10 false [100, 99, 61, 122] [] []] []
theorem alive_w : writeM false (strE 0 []) aliveM = (aliveW, 0) := by decide +kernel
theorem alive_r : readS aliveB = (aliveE, 0) := by kernel_rfl
theorem delM_nm (id : Int) (dn : Byt) (n : Nat) : nmL n (delM id dn).enc := by
  have : nm n (.agg (delM id dn).enc) := by rw [msg_nm]; simp only [delM, Msg.zero, encT, List.map_nil, List.append_nil, nmLL, and_self]
  simpa only [nm] using this
theorem okM_simple {m : Msg} (h1 : okStr m) (h2 : okInt m) (h3 : m.mods = []) (h4 : m.attrs = []) (h5 : m.select = []) (h6 : m.controls = []) : okM m :=
  ⟨h1, h2, by rw [h3]; exact ⟨by simp, by simp⟩, by rw [h4]; exact ⟨by simp, by simp⟩, by rw [h5]; exact ⟨by simp, by simp⟩, by rw [h6]; exact ⟨by simp, by simp⟩⟩
theorem alive_good : good aliveE := by
  refine good_mk _ _ _ _ _ (i64s _ (by omega)) (i64s _ (by omega)) (by simp) (few_b _ (by simp)) (good2 ?_ ?_)
  · exact good_mk _ _ _ _ _ (i64s _ (by omega)) (i64s _ (by omega)) (by unfold maxB; simp) (by simp) (by simp)
  · exact good_mk _ _ _ _ _ (i64s _ (by omega)) (i64s _ (by omega)) (by unfold maxB; simp) (by simp) (by simp)
theorem cl_aliveW : Pure prog 13 [.agg ((((MV.zero.s0 2).s1 0).s3 3).s5 [115]).enc] (.tup [.str aliveW, .int .i64 0]) := by
  have h := cm_Write aliveM false (strE 0 []) .und (okM_simple (by unfold okStr aliveM Msg.zero maxB; simp) (by unfold okInt aliveM Msg.zero i64ok; simp) rfl rfl rfl rfl)
    (fun e => absurd e (by decide)) (fun e => absurd e (by decide)) (fun e => absurd e (by decide))
  rw [alive_w] at h
  exact Pure.args (WkL.cons (MV.wk _ aliveM.mv (nil_nil 7) (nil_nil 1) (nil_nil 3) (nil_nil 2) (nil_nil 4) rfl) WkL.nil) h
theorem cl_aliveR : Pure prog 18 [.str aliveB] (.tup [.agg (delM 1 [100, 99, 61, 122]).enc, .int .i64 0]) :=
  cm_Read_ok aliveB aliveE (delM 1 [100, 99, 61, 122]) false alive_r alive_good
    (cm_told_del aliveE _ _ alive_good (by decide +kernel) rfl 1 (by kernel_rfl) rfl (by decide +kernel)) (delM_nm _ _) (by simp [delM, Msg.zero]) (by simp [delM, Msg.zero]) (fun e => absurd e (by decide)) (by decide +kernel)
theorem cl_alive : Pure prog 11 [] (.bool true) := by
  refine Pure.of (fun _ _ => by simp only [nm]) fun S => acalls_of_vc lowl9_alive (by simp) ?_
  have hW := cl_aliveW
  have hR := cl_aliveR
  unfold aliveW at hW
  unfold aliveB at hR
  simp -implicitDefEqProofs only [Bl9_alive, go_sem, reduceIte, Nat.reduceEqDiff, Nat.reduceAdd, Nat.reduceLeDiff, Nat.reduceLT, decide_true, decide_false, vc_cond2, vcGrps_guard2, vcD_val2, vcD_guard2]
  refine hW.use ?_
  simp -implicitDefEqProofs only [go_sem, reduceIte, Nat.reduceEqDiff, Nat.reduceAdd, Nat.reduceLeDiff, Nat.reduceLT, decide_true, decide_false, vc_cond2, vcGrps_guard2, vcD_val2, vcD_guard2]
  refine hR.use ?_
  have d1 : (delM 1 [100, 99, 61, 122]).op = 10 := rfl
  have d2 : (delM 1 [100, 99, 61, 122]).dn = [100, 99, 61, 122] := rfl
  simp -implicitDefEqProofs only [d1, d2, decide_true, go_sem, reduceIte, Nat.reduceEqDiff, Nat.reduceAdd, Nat.reduceLeDiff, Nat.reduceLT, decide_true, decide_false, vc_cond2, vcGrps_guard2, vcD_val2, vcD_guard2]
  exact ((Ext.refl S).push _).set _ _ (Nat.le_refl _)

/-! ## MessageReplies -/
theorem rep_pos {n : Int} (h : ¬ replyS n < 0) : isReq n = true ∧ isReq (replyS n) = false ∧ replyS (replyS n) < 0 ∧ validB false (resultM 1 (replyS n) 0 [] []) = true := by
  unfold replyS at h
  by_cases hc : isReq n = false ∨ n = 2 ∨ n = 16
  · rw [if_pos hc] at h; omega
  · have hr : isReq n = true := by
      cases hq : isReq n with
      | true => rfl
      | false => exact absurd (.inl hq) hc
    refine ⟨hr, ?_⟩
    have hm := hr
    simp only [isReq, reqL, decide_eq_true_eq, List.mem_cons, List.not_mem_nil, or_false] at hm
    rcases hm with rfl | rfl | rfl | rfl | rfl | rfl | rfl | rfl | rfl | rfl
    · decide +kernel
    · exact absurd (.inr (.inl rfl)) hc
    · decide +kernel
    · decide +kernel
    · decide +kernel
    · decide +kernel
    · decide +kernel
    · decide +kernel
    · exact absurd (.inr (.inr rfl)) hc
    · decide +kernel
theorem rep_neg {n : Int} (h : replyS n < 0) : isReq n = false ∨ n = 2 ∨ n = 16 := by
  by_cases hc : isReq n = false ∨ n = 2 ∨ n = 16
  · exact hc
  · unfold replyS at h
    rw [if_neg hc] at h
    have hr : isReq n = true := by
      cases hq : isReq n with
      | true => rfl
      | false => exact absurd (.inl hq) hc
    have := isReq_le hr
    split at h <;> omega
theorem cl_replies (n : Int) : Pure prog 8 [.int .i64 n] (.bool true) := by
  refine Pure.of (fun _ _ => by simp only [nm]) fun S => acalls_of_vc lowl9_MessageReplies (by simp) ?_
  simp -implicitDefEqProofs only [Bl9_MessageReplies, go_sem, reduceIte, Nat.reduceEqDiff, Nat.reduceAdd, Nat.reduceLeDiff, Nat.reduceLT, decide_true, decide_false, vc_cond2, vcGrps_guard2, vcD_val2, vcD_guard2]
  refine (cm_Reply n).use ?_
  by_cases hneg : replyS n < 0
  · simp -implicitDefEqProofs only [eq_true hneg, decide_true, go_sem, reduceIte, Nat.reduceEqDiff, Nat.reduceAdd, Nat.reduceLeDiff, Nat.reduceLT, decide_true, decide_false, vc_cond2, vcGrps_guard2, vcD_val2, vcD_guard2]
    refine cl_alive.use ?_
    simp -implicitDefEqProofs only [go_sem, reduceIte, Nat.reduceEqDiff, Nat.reduceAdd, Nat.reduceLeDiff, Nat.reduceLT, decide_true, decide_false, vc_cond2, vcGrps_guard2, vcD_val2, vcD_guard2]
    refine (cm_IsRequest n).use ?_
    rcases rep_neg hneg with h | h | h
    · rw [h]
      simp -implicitDefEqProofs only [go_sem, reduceIte, Nat.reduceEqDiff, Nat.reduceAdd, Nat.reduceLeDiff, Nat.reduceLT, decide_true, decide_false, vc_cond2, vcGrps_guard2, vcD_val2, vcD_guard2]
      exact Ext.refl _
    · subst h
      rw [show isReq 2 = true from rfl]
      simp -implicitDefEqProofs only [decide_true, go_sem, reduceIte, Nat.reduceEqDiff, Nat.reduceAdd, Nat.reduceLeDiff, Nat.reduceLT, decide_true, decide_false, vc_cond2, vcGrps_guard2, vcD_val2, vcD_guard2]
      exact Ext.refl _
    · subst h
      rw [show isReq 16 = true from rfl]
      simp -implicitDefEqProofs only [decide_true, Int.reduceEq, decide_false, go_sem, reduceIte, Nat.reduceEqDiff, Nat.reduceAdd, Nat.reduceLeDiff, Nat.reduceLT, decide_true, decide_false, vc_cond2, vcGrps_guard2, vcD_val2, vcD_guard2]
      exact Ext.refl _
  · obtain ⟨h1, h2, h3, h4⟩ := rep_pos hneg
    simp -implicitDefEqProofs only [eq_false hneg, decide_false, go_sem, reduceIte, Nat.reduceEqDiff, Nat.reduceAdd, Nat.reduceLeDiff, Nat.reduceLT, decide_true, decide_false, vc_cond2, vcGrps_guard2, vcD_val2, vcD_guard2]
    refine (cm_Result 1 (replyS n) 0 [] []).use ?_
    simp -implicitDefEqProofs only [go_sem, reduceIte, Nat.reduceEqDiff, Nat.reduceAdd, Nat.reduceLeDiff, Nat.reduceLT, decide_true, decide_false, vc_cond2, vcGrps_guard2, vcD_val2, vcD_guard2]
    refine cl_alive.use ?_
    simp -implicitDefEqProofs only [go_sem, reduceIte, Nat.reduceEqDiff, Nat.reduceAdd, Nat.reduceLeDiff, Nat.reduceLT, decide_true, decide_false, vc_cond2, vcGrps_guard2, vcD_val2, vcD_guard2]
    refine (cm_IsRequest n).use ?_
    rw [h1]
    simp -implicitDefEqProofs only [go_sem, reduceIte, Nat.reduceEqDiff, Nat.reduceAdd, Nat.reduceLeDiff, Nat.reduceLT, decide_true, decide_false, vc_cond2, vcGrps_guard2, vcD_val2, vcD_guard2]
    refine (cm_IsRequest (replyS n)).use ?_
    rw [h2]
    simp -implicitDefEqProofs only [go_sem, reduceIte, Nat.reduceEqDiff, Nat.reduceAdd, Nat.reduceLeDiff, Nat.reduceLT, decide_true, decide_false, vc_cond2, vcGrps_guard2, vcD_val2, vcD_guard2]
    refine (cm_Reply (replyS n)).use ?_
    simp -implicitDefEqProofs only [eq_true h3, decide_true, go_sem, reduceIte, Nat.reduceEqDiff, Nat.reduceAdd, Nat.reduceLeDiff, Nat.reduceLT, decide_true, decide_false, vc_cond2, vcGrps_guard2, vcD_val2, vcD_guard2]
    have hne : ¬ (resultM 1 (replyS n) 0 [] []).op = 3 := by
      intro e
      have : replyS n = 3 := e
      rw [this] at h2; cases h2
    refine (cm_Valid (resultM 1 (replyS n) 0 [] []) false (by simp [resultM, Msg.zero]) (by simp [resultM, Msg.zero]) (fun e => absurd e hne)).use ?_
    rw [h4]
    simp -implicitDefEqProofs only [go_sem, reduceIte, Nat.reduceEqDiff, Nat.reduceAdd, Nat.reduceLeDiff, Nat.reduceLT, decide_true, decide_false, vc_cond2, vcGrps_guard2, vcD_val2, vcD_guard2]
    exact ((Ext.refl S).push _).set _ _ (Nat.le_refl _)
end Go.Proofs.YtajbeippbabhhaaGreatDoor.Eng

namespace Go.Proofs.YtajbeippbabhhaaGreatDoor.Eng
open Go Go.Proofs.Tryz

/-! ## Lists of one length, place by place -/
def sameL {α : Type} (p : α → α → Bool) : List α → List α → Bool
  | [], [] => true
  | x :: a, y :: b => p x y && sameL p a b
  | _, _ => false
theorem sameL_len {α : Type} (p : α → α → Bool) : ∀ (a b : List α), a.length ≠ b.length → sameL p a b = false
  | [], [], h => absurd rfl h
  | [], _ :: _, _ => rfl
  | _ :: _, [], _ => rfl
  | x :: a, y :: b, h => by simp only [sameL, sameL_len p a b (fun e => h (by simp [e])), Bool.and_false]
theorem sameL_refl {α : Type} (p : α → α → Bool) (h : ∀ x, p x x = true) : ∀ (a : List α), sameL p a a = true
  | [] => rfl
  | x :: a => by simp only [sameL, h x, sameL_refl p h a, Bool.and_self]
theorem sameL_step {α : Type} {p : α → α → Bool} {a b : List α} {i : Nat} {x y : α} (hx : a[i]? = some x) (hy : b[i]? = some y) : sameL p (a.drop i) (b.drop i) = (p x y && sameL p (a.drop (i + 1)) (b.drop (i + 1))) := by
  rw [dropC hx, dropC hy, sameL]
def eqT (x y : Byt) : Bool := decide (x = y)
def sameT (a b : List Byt) : Bool := sameL eqT a b

theorem cr_texts (a b : List Byt) (xa xb : List (List AV)) : Pure prog 62 [txV a xa, txV b xb] (.bool (sameT a b)) := by
  refine Pure.of (fun _ _ => by simp only [nm]) fun S => acalls_of_vc lowr9_texts (by simp) ?_
  unfold txV sameT
  by_cases hab : a.length = b.length
  rotate_left
  · have q := eq_false (show ¬ ((a.length : Int) = b.length) by omega)
    rw [sameL_len _ _ _ hab]
    simp -implicitDefEqProofs only [Br9_texts, encT_take, encT_len, q, ne_eq, not_false_eq_true, decide_true, go_sem, reduceIte, Nat.reduceEqDiff, Nat.reduceAdd, Nat.reduceLeDiff, Nat.reduceLT, decide_true, decide_false, vc_cond2, vcGrps_guard2, vcD_val2, vcD_guard2]
    intros
    exact Ext.refl _
  have q := eq_true (show ((a.length : Int) = b.length) by omega)
  simp -implicitDefEqProofs only [Br9_texts, encT_take, encT_len, q, ne_eq, not_true_eq_false, decide_false, go_sem, reduceIte, Nat.reduceEqDiff, Nat.reduceAdd, Nat.reduceLeDiff, Nat.reduceLT, decide_true, decide_false, vc_cond2, vcGrps_guard2, vcD_val2, vcD_guard2]
  intro hla _
  unfold lenMax at hla
  refine vc_loop (fun n fr S' => ∃ i, i + n = a.length ∧ fr 0 = .sl 1 (encT a ++ xa) a.length ∧ fr 1 = .sl 1 (encT b ++ xb) b.length ∧ fr 5 = .int .i64 i ∧ S' = S ∧ sameL eqT (a.drop i) (b.drop i) = sameL eqT a b) a.length
    ⟨0, by simp, rfl, rfl, rfl, rfl, by simp⟩ ?_
  rintro n fr S' ⟨i, hin, f0, f1, f5, rfl, hd⟩
  by_cases hlt : i < a.length
  · obtain ⟨x, hx⟩ : ∃ x, a[i]? = some x := ⟨_, List.getElem?_eq_getElem hlt⟩
    obtain ⟨y, hy⟩ : ∃ y, b[i]? = some y := ⟨_, List.getElem?_eq_getElem (by omega)⟩
    have ha := encT_at xa hx
    have hb := encT_at xb hy
    have h0 : (0 : Int) ≤ i := by omega
    have hlt' : (i : Int) < a.length := by omega
    have hltb : i < b.length := by omega
    have hi1 : IntKind.i64.wrap ((i : Int) + 1) = i + 1 := w64 _ (by omega) (by omega)
    rw [sameL_step hx hy] at hd
    by_cases e : x = y
    · simp -implicitDefEqProofs only [f0, f1, f5, encT_take, encT_len, hlt, hlt', hltb, h0, ha, hb, hi1, eq_true e, ne_eq, not_true_eq_false, decide_true, decide_false, go_sem, reduceIte, Nat.reduceEqDiff, Nat.reduceAdd, Nat.reduceLeDiff, Nat.reduceLT, decide_true, decide_false, vc_cond2, vcGrps_guard2, vcD_val2, vcD_guard2]
      intro _
      exact ⟨n - 1, by omega, i + 1, by omega, by simp, by simpa [eqT, e] using hd⟩
    · simp -implicitDefEqProofs only [f0, f1, f5, encT_take, encT_len, hlt, hlt', hltb, h0, ha, hb, hi1, eq_false e, ne_eq, not_false_eq_true, decide_true, decide_false, go_sem, reduceIte, Nat.reduceEqDiff, Nat.reduceAdd, Nat.reduceLeDiff, Nat.reduceLT, decide_true, decide_false, vc_cond2, vcGrps_guard2, vcD_val2, vcD_guard2]
      intro _
      rw [← hd]; exact ⟨by simp [eqT, e], Ext.refl _⟩
  · have hlt' : ¬ (i : Int) < a.length := by omega
    rw [List.drop_eq_nil_of_le (by omega), List.drop_eq_nil_of_le (by omega)] at hd
    simp -implicitDefEqProofs only [f0, f1, f5, encT_take, encT_len, hlt', decide_false, go_sem, reduceIte, Nat.reduceEqDiff, Nat.reduceAdd, Nat.reduceLeDiff, Nat.reduceLT, decide_true, decide_false, vc_cond2, vcGrps_guard2, vcD_val2, vcD_guard2]
    intro _
    rw [← hd]; exact ⟨rfl, Ext.refl _⟩

def eqMd (x y : Mdf) : Bool := decide (x.op = y.op) && (decide (x.typ = y.typ) && sameT x.values y.values)
theorem cr_mods (a b : List Mdf) (xa xb : List (List AV)) : Pure prog 63 [mdfV a xa, mdfV b xb] (.bool (sameL eqMd a b)) := by
  refine Pure.of (fun _ _ => by simp only [nm]) fun S => acalls_of_vc lowr9_SameMods (by simp) ?_
  unfold mdfV
  by_cases hab : a.length = b.length
  rotate_left
  · have q := eq_false (show ¬ ((a.length : Int) = b.length) by omega)
    rw [sameL_len _ _ _ hab]
    simp -implicitDefEqProofs only [Br9_SameMods, map_take_app, List.length_map, q, ne_eq, not_false_eq_true, decide_true, go_sem, reduceIte, Nat.reduceEqDiff, Nat.reduceAdd, Nat.reduceLeDiff, Nat.reduceLT, decide_true, decide_false, vc_cond2, vcGrps_guard2, vcD_val2, vcD_guard2]
    intros
    exact Ext.refl _
  have q := eq_true (show ((a.length : Int) = b.length) by omega)
  simp -implicitDefEqProofs only [Br9_SameMods, map_take_app, List.length_map, q, ne_eq, not_true_eq_false, decide_false, go_sem, reduceIte, Nat.reduceEqDiff, Nat.reduceAdd, Nat.reduceLeDiff, Nat.reduceLT, decide_true, decide_false, vc_cond2, vcGrps_guard2, vcD_val2, vcD_guard2]
  intro hla _
  unfold lenMax at hla
  refine vc_loop (fun n fr S' => ∃ i, i + n = a.length ∧ fr 0 = .sl 3 (a.map Mdf.enc ++ xa) a.length ∧ fr 1 = .sl 3 (b.map Mdf.enc ++ xb) b.length ∧ fr 5 = .int .i64 i ∧ S' = S ∧ sameL eqMd (a.drop i) (b.drop i) = sameL eqMd a b) a.length
    ⟨0, by simp, rfl, rfl, rfl, rfl, by simp⟩ ?_
  rintro n fr S' ⟨i, hin, f0, f1, f5, rfl, hd⟩
  by_cases hlt : i < a.length
  · obtain ⟨x, hx⟩ : ∃ x, a[i]? = some x := ⟨_, List.getElem?_eq_getElem hlt⟩
    obtain ⟨y, hy⟩ : ∃ y, b[i]? = some y := ⟨_, List.getElem?_eq_getElem (by omega)⟩
    have ha := map_at_app Mdf.enc xa hx
    have hb := map_at_app Mdf.enc xb hy
    have h0 : (0 : Int) ≤ i := by omega
    have hlt' : (i : Int) < a.length := by omega
    have hltb : i < b.length := by omega
    have hi1 : IntKind.i64.wrap ((i : Int) + 1) = i + 1 := w64 _ (by omega) (by omega)
    rw [sameL_step hx hy] at hd
    by_cases e1 : x.op = y.op
    · by_cases e2 : x.typ = y.typ
      · simp -implicitDefEqProofs only [f0, f1, f5, map_take_app, List.length_map, hlt, hlt', hltb, h0, ha, hb, hi1, eq_true e1, eq_true e2, ne_eq, not_true_eq_false, decide_true, decide_false, go_sem, reduceIte, Nat.reduceEqDiff, Nat.reduceAdd, Nat.reduceLeDiff, Nat.reduceLT, decide_true, decide_false, vc_cond2, vcGrps_guard2, vcD_val2, vcD_guard2]
        intro _
        refine vcDO_by _ _ _ _ _ _ _ _ _ _ _ (cr_texts x.values y.values x.valX y.valX) ?_
        cases e3 : sameT x.values y.values with
        | true =>
          simp -implicitDefEqProofs only [f0, f1, f5, hi1, go_sem, reduceIte, Nat.reduceEqDiff, Nat.reduceAdd, Nat.reduceLeDiff, Nat.reduceLT, decide_true, decide_false, vc_cond2, vcGrps_guard2, vcD_val2, vcD_guard2]
          exact ⟨n - 1, by omega, i + 1, by omega, by simp, by simpa [eqMd, e1, e2, e3] using hd⟩
        | false =>
          simp -implicitDefEqProofs only [f0, f1, f5, hi1, go_sem, reduceIte, Nat.reduceEqDiff, Nat.reduceAdd, Nat.reduceLeDiff, Nat.reduceLT, decide_true, decide_false, vc_cond2, vcGrps_guard2, vcD_val2, vcD_guard2]
          rw [← hd]; exact ⟨by simp [eqMd, e3], Ext.refl _⟩
      · simp -implicitDefEqProofs only [f0, f1, f5, map_take_app, List.length_map, hlt, hlt', hltb, h0, ha, hb, hi1, eq_true e1, eq_false e2, ne_eq, not_true_eq_false, not_false_eq_true, decide_true, decide_false, go_sem, reduceIte, Nat.reduceEqDiff, Nat.reduceAdd, Nat.reduceLeDiff, Nat.reduceLT, decide_true, decide_false, vc_cond2, vcGrps_guard2, vcD_val2, vcD_guard2]
        intro _
        rw [← hd]; exact ⟨by simp [eqMd, e2], Ext.refl _⟩
    · simp -implicitDefEqProofs only [f0, f1, f5, map_take_app, List.length_map, hlt, hlt', hltb, h0, ha, hb, hi1, eq_false e1, ne_eq, not_true_eq_false, not_false_eq_true, decide_true, decide_false, go_sem, reduceIte, Nat.reduceEqDiff, Nat.reduceAdd, Nat.reduceLeDiff, Nat.reduceLT, decide_true, decide_false, vc_cond2, vcGrps_guard2, vcD_val2, vcD_guard2]
      intro _
      rw [← hd]; exact ⟨by simp [eqMd, e1], Ext.refl _⟩
  · have hlt' : ¬ (i : Int) < a.length := by omega
    rw [List.drop_eq_nil_of_le (by omega), List.drop_eq_nil_of_le (by omega)] at hd
    simp -implicitDefEqProofs only [f0, f1, f5, map_take_app, List.length_map, hlt', decide_false, go_sem, reduceIte, Nat.reduceEqDiff, Nat.reduceAdd, Nat.reduceLeDiff, Nat.reduceLT, decide_true, decide_false, vc_cond2, vcGrps_guard2, vcD_val2, vcD_guard2]
    intro _
    rw [← hd]; exact ⟨rfl, Ext.refl _⟩

def eqCt (x y : Ctl) : Bool := decide (x.oid = y.oid) && (decide (x.crit = y.crit) && (decide (x.has = y.has) && decide (x.value = y.value)))
theorem ctl_deq (x y : Ctl) : deqV true [] [(0, 2), (1, 1), (2, 1), (3, 2)] (.agg x.enc) (.agg y.enc) = some (.bool (!eqCt x y)) := by
  have : ∀ a b c d : Bool, (!(a && (b && (c && (d && true))))) = !(a && (b && (c && d))) := by decide
  simp [deqV, eqKs, eqK, eqS, Ctl.enc, eqCt]
end Go.Proofs.YtajbeippbabhhaaGreatDoor.Eng

namespace Go.Proofs.YtajbeippbabhhaaGreatDoor.Eng
open Go Go.Proofs.Tryz

theorem cr_ctls (a b : List Ctl) (xa xb : List (List AV)) : Pure prog 65 [ctlV a xa, ctlV b xb] (.bool (sameL eqCt a b)) := by
  refine Pure.of (fun _ _ => by simp only [nm]) fun S => acalls_of_vc lowr9_SameControls (by simp) ?_
  unfold ctlV
  by_cases hab : a.length = b.length
  rotate_left
  · have q := eq_false (show ¬ ((a.length : Int) = b.length) by omega)
    rw [sameL_len _ _ _ hab]
    simp -implicitDefEqProofs only [Br9_SameControls, map_take_app, List.length_map, q, ne_eq, not_false_eq_true, decide_true, go_sem, reduceIte, Nat.reduceEqDiff, Nat.reduceAdd, Nat.reduceLeDiff, Nat.reduceLT, decide_true, decide_false, vc_cond2, vcGrps_guard2, vcD_val2, vcD_guard2]
    intros
    exact Ext.refl _
  have q := eq_true (show ((a.length : Int) = b.length) by omega)
  simp -implicitDefEqProofs only [Br9_SameControls, map_take_app, List.length_map, q, ne_eq, not_true_eq_false, decide_false, go_sem, reduceIte, Nat.reduceEqDiff, Nat.reduceAdd, Nat.reduceLeDiff, Nat.reduceLT, decide_true, decide_false, vc_cond2, vcGrps_guard2, vcD_val2, vcD_guard2]
  intro hla _
  unfold lenMax at hla
  refine vc_loop (fun n fr S' => ∃ i, i + n = a.length ∧ fr 0 = .sl 4 (a.map Ctl.enc ++ xa) a.length ∧ fr 1 = .sl 4 (b.map Ctl.enc ++ xb) b.length ∧ fr 5 = .int .i64 i ∧ S' = S ∧ sameL eqCt (a.drop i) (b.drop i) = sameL eqCt a b) a.length
    ⟨0, by simp, rfl, rfl, rfl, rfl, by simp⟩ ?_
  rintro n fr S' ⟨i, hin, f0, f1, f5, rfl, hd⟩
  by_cases hlt : i < a.length
  · obtain ⟨x, hx⟩ : ∃ x, a[i]? = some x := ⟨_, List.getElem?_eq_getElem hlt⟩
    obtain ⟨y, hy⟩ : ∃ y, b[i]? = some y := ⟨_, List.getElem?_eq_getElem (by omega)⟩
    have ha := map_at_app Ctl.enc xa hx
    have hb := map_at_app Ctl.enc xb hy
    have h0 : (0 : Int) ≤ i := by omega
    have hlt' : (i : Int) < a.length := by omega
    have hltb : i < b.length := by omega
    have hi1 : IntKind.i64.wrap ((i : Int) + 1) = i + 1 := w64 _ (by omega) (by omega)
    rw [sameL_step hx hy] at hd
    unfold Ctl.enc at ha hb
    have he : ∀ (t : Bool), (!(decide (x.oid = y.oid) && (decide (x.crit = y.crit) && (decide (x.has = y.has) && (decide (x.value = y.value) && true))))) = !eqCt x y := fun _ => by simp [eqCt]
    simp -implicitDefEqProofs only [f0, f1, f5, map_take_app, List.length_map, hlt, hlt', hltb, h0, ha, hb, he true, hi1, decide_true, go_sem, reduceIte, Nat.reduceEqDiff, Nat.reduceAdd, Nat.reduceLeDiff, Nat.reduceLT, decide_true, decide_false, vc_cond2, vcGrps_guard2, vcD_val2, vcD_guard2]
    intro _
    rw [show Ctl.enc = fun c : Ctl => [AV.str c.oid, .bool c.crit, .bool c.has, .str c.value] from rfl] at *
    cases e3 : eqCt x y with
    | true =>
      have e4 : (decide (x.oid = y.oid) && (decide (x.crit = y.crit) && (decide (x.has = y.has) && decide (x.value = y.value)))) = true := e3
      simp -implicitDefEqProofs only [f0, f1, f5, map_take_app, List.length_map, hlt, hlt', hltb, h0, ha, hb, hi1, e4, Bool.and_true, decide_true, go_sem, reduceIte, Nat.reduceEqDiff, Nat.reduceAdd, Nat.reduceLeDiff, Nat.reduceLT, decide_true, decide_false, vc_cond2, vcGrps_guard2, vcD_val2, vcD_guard2]
      exact ⟨n - 1, by omega, i + 1, by omega, by simp, by simpa [e3] using hd⟩
    | false =>
      have e4 : (decide (x.oid = y.oid) && (decide (x.crit = y.crit) && (decide (x.has = y.has) && decide (x.value = y.value)))) = false := e3
      simp -implicitDefEqProofs only [f0, f1, f5, map_take_app, List.length_map, hlt, hlt', hltb, h0, ha, hb, hi1, e4, Bool.and_true, decide_true, go_sem, reduceIte, Nat.reduceEqDiff, Nat.reduceAdd, Nat.reduceLeDiff, Nat.reduceLT, decide_true, decide_false, vc_cond2, vcGrps_guard2, vcD_val2, vcD_guard2]
      rw [← hd]; exact ⟨by simp [e3], Ext.refl _⟩
  · have hlt' : ¬ (i : Int) < a.length := by omega
    rw [List.drop_eq_nil_of_le (by omega), List.drop_eq_nil_of_le (by omega)] at hd
    simp -implicitDefEqProofs only [f0, f1, f5, map_take_app, List.length_map, hlt', decide_false, go_sem, reduceIte, Nat.reduceEqDiff, Nat.reduceAdd, Nat.reduceLeDiff, Nat.reduceLT, decide_true, decide_false, vc_cond2, vcGrps_guard2, vcD_val2, vcD_guard2]
    intro _
    rw [← hd]; exact ⟨rfl, Ext.refl _⟩
end Go.Proofs.YtajbeippbabhhaaGreatDoor.Eng

namespace Go.Proofs.YtajbeippbabhhaaGreatDoor.Eng
open Go Go.Proofs.Tryz

def eqAt (x y : Att) : Bool := decide (x.typ = y.typ) && sameT x.values y.values
theorem cr_attrs (a b : List Att) (xa xb : List (List AV)) : Pure prog 64 [attV a xa, attV b xb] (.bool (sameL eqAt a b)) := by
  refine Pure.of (fun _ _ => by simp only [nm]) fun S => acalls_of_vc lowr7_SameAttrs (by simp) ?_
  unfold attV
  by_cases hab : a.length = b.length
  rotate_left
  · have q := eq_false (show ¬ ((a.length : Int) = b.length) by omega)
    rw [sameL_len _ _ _ hab]
    simp -implicitDefEqProofs only [Br7_SameAttrs, map_take_app, List.length_map, q, ne_eq, not_false_eq_true, decide_true, go_sem, reduceIte, Nat.reduceEqDiff, Nat.reduceAdd, Nat.reduceLeDiff, Nat.reduceLT, decide_true, decide_false, vc_cond2, vcGrps_guard2, vcD_val2, vcD_guard2]
    intros
    exact Ext.refl _
  have q := eq_true (show ((a.length : Int) = b.length) by omega)
  simp -implicitDefEqProofs only [Br7_SameAttrs, map_take_app, List.length_map, q, ne_eq, not_true_eq_false, decide_false, go_sem, reduceIte, Nat.reduceEqDiff, Nat.reduceAdd, Nat.reduceLeDiff, Nat.reduceLT, decide_true, decide_false, vc_cond2, vcGrps_guard2, vcD_val2, vcD_guard2]
  intro hla _
  unfold lenMax at hla
  refine vc_loop (fun n fr S' => ∃ i, i + n = a.length ∧ fr 0 = .sl 2 (a.map Att.enc ++ xa) a.length ∧ fr 1 = .sl 2 (b.map Att.enc ++ xb) b.length ∧ fr 5 = .int .i64 i ∧ S' = S ∧ sameL eqAt (a.drop i) (b.drop i) = sameL eqAt a b) a.length
    ⟨0, by simp, rfl, rfl, rfl, rfl, by simp⟩ ?_
  rintro n fr S' ⟨i, hin, f0, f1, f5, rfl, hd⟩
  by_cases hlt : i < a.length
  · obtain ⟨x, hx⟩ : ∃ x, a[i]? = some x := ⟨_, List.getElem?_eq_getElem hlt⟩
    obtain ⟨y, hy⟩ : ∃ y, b[i]? = some y := ⟨_, List.getElem?_eq_getElem (by omega)⟩
    have ha := map_at_app Att.enc xa hx
    have hb := map_at_app Att.enc xb hy
    have h0 : (0 : Int) ≤ i := by omega
    have hlt' : (i : Int) < a.length := by omega
    have hltb : i < b.length := by omega
    have hi1 : IntKind.i64.wrap ((i : Int) + 1) = i + 1 := w64 _ (by omega) (by omega)
    rw [sameL_step hx hy] at hd
    by_cases e1 : x.typ = y.typ
    · by_cases e2 : x.values.length = y.values.length
      · have p2 := eq_true (show ((x.values.length : Int) = y.values.length) by omega)
        simp -implicitDefEqProofs only [f0, f1, f5, map_take_app, encT_take, encT_len, List.length_map, hlt, hlt', hltb, h0, ha, hb, hi1, eq_true e1, p2, ne_eq, not_true_eq_false, decide_true, decide_false, go_sem, reduceIte, Nat.reduceEqDiff, Nat.reduceAdd, Nat.reduceLeDiff, Nat.reduceLT, decide_true, decide_false, vc_cond2, vcGrps_guard2, vcD_val2, vcD_guard2]
        intro _
        refine vc_loop (fun n' fr S'' => ∃ j, j + n' = x.values.length ∧ fr 0 = .sl 2 (a.map Att.enc ++ xa) a.length ∧ fr 1 = .sl 2 (b.map Att.enc ++ xb) b.length ∧ fr 5 = .int .i64 i ∧ fr 6 = .int .i64 j ∧ S'' = S' ∧ sameL eqT (x.values.drop j) (y.values.drop j) = sameT x.values y.values) x.values.length
          ⟨0, by simp, f0, f1, f5, rfl, rfl, by simp [sameT]⟩ ?_
        clear f0 f1 f5 fr
        rintro n' fr S'' ⟨j, hjn, f0, f1, f5, f6, rfl, hdj⟩
        by_cases hjl : j < x.values.length
        · obtain ⟨u, hu⟩ : ∃ u, x.values[j]? = some u := ⟨_, List.getElem?_eq_getElem hjl⟩
          obtain ⟨v, hv⟩ : ∃ v, y.values[j]? = some v := ⟨_, List.getElem?_eq_getElem (by omega)⟩
          have hau := encT_at x.valX hu
          have hbv := encT_at y.valX hv
          have g0 : (0 : Int) ≤ j := by omega
          have hjl' : (j : Int) < x.values.length := by omega
          have hjb : j < y.values.length := by omega
          rw [sameL_step hu hv] at hdj
          by_cases e3 : u = v
          · simp -implicitDefEqProofs only [f0, f1, f5, f6, map_take_app, encT_take, encT_len, List.length_map, hlt, hltb, h0, ha, hb, hjl, hjl', hjb, g0, hau, hbv, eq_true e3, ne_eq, not_true_eq_false, decide_true, decide_false, go_sem, reduceIte, Nat.reduceEqDiff, Nat.reduceAdd, Nat.reduceLeDiff, Nat.reduceLT, decide_true, decide_false, vc_cond2, vcGrps_guard2, vcD_val2, vcD_guard2]
            intro hlv
            unfold lenMax at hlv
            have hj1 : IntKind.i64.wrap ((j : Int) + 1) = j + 1 := w64 _ (by omega) (by omega)
            rw [hj1]
            exact ⟨n' - 1, by omega, j + 1, by omega, by simp, by simpa [eqT, e3] using hdj⟩
          · simp -implicitDefEqProofs only [f0, f1, f5, f6, map_take_app, encT_take, encT_len, List.length_map, hlt, hltb, h0, ha, hb, hjl, hjl', hjb, g0, hau, hbv, eq_false e3, ne_eq, not_false_eq_true, decide_true, decide_false, go_sem, reduceIte, Nat.reduceEqDiff, Nat.reduceAdd, Nat.reduceLeDiff, Nat.reduceLT, decide_true, decide_false, vc_cond2, vcGrps_guard2, vcD_val2, vcD_guard2]
            intro _
            rw [← hd]
            refine ⟨?_, Ext.refl _⟩
            have : sameT x.values y.values = false := by rw [← hdj]; simp [eqT, e3]
            simp [eqAt, this]
        · have hjl' : ¬ (j : Int) < x.values.length := by omega
          rw [List.drop_eq_nil_of_le (by omega), List.drop_eq_nil_of_le (by omega)] at hdj
          have hs : sameT x.values y.values = true := hdj.symm
          simp -implicitDefEqProofs only [f0, f1, f5, f6, map_take_app, encT_take, encT_len, List.length_map, hlt, hltb, h0, ha, hb, hi1, hjl', decide_true, decide_false, go_sem, reduceIte, Nat.reduceEqDiff, Nat.reduceAdd, Nat.reduceLeDiff, Nat.reduceLT, decide_true, decide_false, vc_cond2, vcGrps_guard2, vcD_val2, vcD_guard2]
          intro _
          exact ⟨n - 1, by omega, i + 1, by omega, by simp, by simpa [eqAt, e1, hs] using hd⟩
      · have p2 := eq_false (show ¬ ((x.values.length : Int) = y.values.length) by omega)
        simp -implicitDefEqProofs only [f0, f1, f5, map_take_app, encT_take, encT_len, List.length_map, hlt, hlt', hltb, h0, ha, hb, hi1, eq_true e1, p2, ne_eq, not_true_eq_false, not_false_eq_true, decide_true, decide_false, go_sem, reduceIte, Nat.reduceEqDiff, Nat.reduceAdd, Nat.reduceLeDiff, Nat.reduceLT, decide_true, decide_false, vc_cond2, vcGrps_guard2, vcD_val2, vcD_guard2]
        intro _
        rw [← hd]
        exact ⟨by simp [eqAt, sameT, sameL_len _ _ _ e2], Ext.refl _⟩
    · simp -implicitDefEqProofs only [f0, f1, f5, map_take_app, encT_take, encT_len, List.length_map, hlt, hlt', hltb, h0, ha, hb, hi1, eq_false e1, ne_eq, not_true_eq_false, not_false_eq_true, decide_true, decide_false, go_sem, reduceIte, Nat.reduceEqDiff, Nat.reduceAdd, Nat.reduceLeDiff, Nat.reduceLT, decide_true, decide_false, vc_cond2, vcGrps_guard2, vcD_val2, vcD_guard2]
      intro _
      rw [← hd]; exact ⟨by simp [eqAt, e1], Ext.refl _⟩
  · have hlt' : ¬ (i : Int) < a.length := by omega
    rw [List.drop_eq_nil_of_le (by omega), List.drop_eq_nil_of_le (by omega)] at hd
    simp -implicitDefEqProofs only [f0, f1, f5, map_take_app, List.length_map, hlt', decide_false, go_sem, reduceIte, Nat.reduceEqDiff, Nat.reduceAdd, Nat.reduceLeDiff, Nat.reduceLT, decide_true, decide_false, vc_cond2, vcGrps_guard2, vcD_val2, vcD_guard2]
    intro _
    rw [← hd]; exact ⟨rfl, Ext.refl _⟩
end Go.Proofs.YtajbeippbabhhaaGreatDoor.Eng

namespace Go.Proofs.YtajbeippbabhhaaGreatDoor.Eng
open Go Go.Proofs.Tryz

def eqFl (x y : Fil) : Bool := decide (x.op = y.op) && (decide (x.n = y.n) && (decide (x.typ = y.typ) && (decide (x.value = y.value) && (decide (x.init = y.init) && (decide (x.final = y.final) && sameT x.any y.any)))))
set_option maxHeartbeats 2000000 in
theorem cr_filter (a b : List Fil) (xa xb : List (List AV)) : Pure prog 61 [filV a xa, filV b xb] (.bool (sameL eqFl a b)) := by
  refine Pure.of (fun _ _ => by simp only [nm]) fun S => acalls_of_vc lowr9_SameFilter (by simp) ?_
  unfold filV
  by_cases hab : a.length = b.length
  rotate_left
  · have q := eq_false (show ¬ ((a.length : Int) = b.length) by omega)
    rw [sameL_len _ _ _ hab]
    simp -implicitDefEqProofs only [Br9_SameFilter, map_take_app, List.length_map, q, ne_eq, not_false_eq_true, decide_true, go_sem, reduceIte, Nat.reduceEqDiff, Nat.reduceAdd, Nat.reduceLeDiff, Nat.reduceLT, decide_true, decide_false, vc_cond2, vcGrps_guard2, vcD_val2, vcD_guard2]
    intros
    exact Ext.refl _
  have q := eq_true (show ((a.length : Int) = b.length) by omega)
  simp -implicitDefEqProofs only [Br9_SameFilter, map_take_app, List.length_map, q, ne_eq, not_true_eq_false, decide_false, go_sem, reduceIte, Nat.reduceEqDiff, Nat.reduceAdd, Nat.reduceLeDiff, Nat.reduceLT, decide_true, decide_false, vc_cond2, vcGrps_guard2, vcD_val2, vcD_guard2]
  intro hla _
  unfold lenMax at hla
  refine vc_loop (fun n fr S' => ∃ i, i + n = a.length ∧ fr 0 = .sl 7 (a.map Fil.enc ++ xa) a.length ∧ fr 1 = .sl 7 (b.map Fil.enc ++ xb) b.length ∧ fr 5 = .int .i64 i ∧ Ext S S' ∧ sameL eqFl (a.drop i) (b.drop i) = sameL eqFl a b) a.length
    ⟨0, by simp, rfl, rfl, rfl, Ext.refl _, by simp⟩ ?_
  rintro n fr T ⟨i, hin, f0, f1, f5, hE, hd⟩
  by_cases hlt : i < a.length
  rotate_left
  · have hlt' : ¬ (i : Int) < a.length := by omega
    rw [List.drop_eq_nil_of_le (by omega), List.drop_eq_nil_of_le (by omega)] at hd
    simp -implicitDefEqProofs only [f0, f1, f5, map_take_app, List.length_map, hlt', decide_false, go_sem, reduceIte, Nat.reduceEqDiff, Nat.reduceAdd, Nat.reduceLeDiff, Nat.reduceLT, decide_true, decide_false, vc_cond2, vcGrps_guard2, vcD_val2, vcD_guard2]
    intro _
    rw [← hd]; exact ⟨rfl, hE⟩
  obtain ⟨x, hx⟩ : ∃ x, a[i]? = some x := ⟨_, List.getElem?_eq_getElem hlt⟩
  obtain ⟨y, hy⟩ : ∃ y, b[i]? = some y := ⟨_, List.getElem?_eq_getElem (by omega)⟩
  have ha := map_at_app Fil.enc xa hx
  have hb := map_at_app Fil.enc xb hy
  have h0 : (0 : Int) ≤ i := by omega
  have hlt' : (i : Int) < a.length := by omega
  have hltb : i < b.length := by omega
  have hi1 : IntKind.i64.wrap ((i : Int) + 1) = i + 1 := w64 _ (by omega) (by omega)
  rw [sameL_step hx hy] at hd
  refine vc_cut (fun fr' U => U = T ∧ fr' 0 = fr 0 ∧ fr' 1 = fr 1 ∧ fr' 5 = fr 5) ?_ ?_
  · simp -implicitDefEqProofs only [f0, f1, f5, map_take_app, List.length_map, hlt', decide_true, go_sem, reduceIte, Nat.reduceEqDiff, Nat.reduceAdd, Nat.reduceLeDiff, Nat.reduceLT, decide_true, decide_false, vc_cond2, vcGrps_guard2, vcD_val2, vcD_guard2]
    exact fun _ => trivial
  rintro fr' U ⟨rfl, r0, r1, r5⟩
  rw [f0] at r0
  rw [f1] at r1
  rw [f5] at r5
  clear f0 f1 f5 fr
  refine vc_cut (fun fr V => eqFl x y = true ∧ Ext S V ∧ fr 0 = .sl 7 (a.map Fil.enc ++ xa) a.length ∧ fr 1 = .sl 7 (b.map Fil.enc ++ xb) b.length ∧ fr 5 = .int .i64 i) ?_ ?_
  rotate_left
  · rintro fr V ⟨he, hE', f0, f1, f5⟩
    simp -implicitDefEqProofs only [f0, f1, f5, hi1, go_sem, reduceIte, Nat.reduceEqDiff, Nat.reduceAdd, Nat.reduceLeDiff, Nat.reduceLT, decide_true, decide_false, vc_cond2, vcGrps_guard2, vcD_val2, vcD_guard2]
    exact ⟨n - 1, by omega, i + 1, by omega, by simp, hE', by simpa [he] using hd⟩
  rw [vc_block]
  refine vc_cut (fun fr V => ∃ p q, fr 6 = .ptr p 0 ∧ fr 7 = .ptr q 0 ∧ V.get p = some (.box 83 x.enc) ∧ V.get q = some (.box 83 y.enc) ∧ Ext S V ∧ fr 0 = .sl 7 (a.map Fil.enc ++ xa) a.length ∧ fr 1 = .sl 7 (b.map Fil.enc ++ xb) b.length ∧ fr 5 = .int .i64 i) ?_ ?_
  · simp -implicitDefEqProofs only [r0, r1, r5, hlt, hltb, h0, ha, hb, go_sem, reduceIte, Nat.reduceEqDiff, Nat.reduceAdd, Nat.reduceLeDiff, Nat.reduceLT, decide_true, decide_false, vc_cond2, vcGrps_guard2, vcD_val2, vcD_guard2]
    have hn := hE.n
    exact ⟨⟨_, _, rfl, rfl, by simp, by simp, (((hE.push _).push _).set _ _ (by omega)).set _ _ (by omega)⟩, ⟨_, _, rfl, rfl, by simp, by simp, (((hE.push _).push _).set _ _ (by omega)).set _ _ (by omega)⟩⟩
  rintro fr V ⟨p, q, f6, f7, gp, gq, hE2, f0, f1, f5⟩
  by_cases e0 : x.op = y.op
  rotate_left
  · simp -implicitDefEqProofs only [f0, f1, f5, f6, f7, gp, gq, eq_false e0, ne_eq, not_true_eq_false, not_false_eq_true, decide_true, decide_false, go_sem, reduceIte, Nat.reduceEqDiff, Nat.reduceAdd, Nat.reduceLeDiff, Nat.reduceLT, decide_true, decide_false, vc_cond2, vcGrps_guard2, vcD_val2, vcD_guard2]
    rw [← hd]; exact ⟨by simp [eqFl, e0], hE2⟩
  by_cases e1 : x.n = y.n
  rotate_left
  · simp -implicitDefEqProofs only [f0, f1, f5, f6, f7, gp, gq, eq_true e0, eq_false e1, ne_eq, not_true_eq_false, not_false_eq_true, decide_true, decide_false, go_sem, reduceIte, Nat.reduceEqDiff, Nat.reduceAdd, Nat.reduceLeDiff, Nat.reduceLT, decide_true, decide_false, vc_cond2, vcGrps_guard2, vcD_val2, vcD_guard2]
    rw [← hd]; exact ⟨by simp [eqFl, e1], hE2⟩
  by_cases e2 : x.typ = y.typ
  rotate_left
  · simp -implicitDefEqProofs only [f0, f1, f5, f6, f7, gp, gq, eq_true e0, eq_true e1, eq_false e2, ne_eq, not_true_eq_false, not_false_eq_true, decide_true, decide_false, go_sem, reduceIte, Nat.reduceEqDiff, Nat.reduceAdd, Nat.reduceLeDiff, Nat.reduceLT, decide_true, decide_false, vc_cond2, vcGrps_guard2, vcD_val2, vcD_guard2]
    rw [← hd]; exact ⟨by simp [eqFl, e2], hE2⟩
  by_cases e3 : x.value = y.value
  rotate_left
  · simp -implicitDefEqProofs only [f0, f1, f5, f6, f7, gp, gq, eq_true e0, eq_true e1, eq_true e2, eq_false e3, ne_eq, not_true_eq_false, not_false_eq_true, decide_true, decide_false, go_sem, reduceIte, Nat.reduceEqDiff, Nat.reduceAdd, Nat.reduceLeDiff, Nat.reduceLT, decide_true, decide_false, vc_cond2, vcGrps_guard2, vcD_val2, vcD_guard2]
    rw [← hd]; exact ⟨by simp [eqFl, e3], hE2⟩
  by_cases e4 : x.init = y.init
  rotate_left
  · simp -implicitDefEqProofs only [f0, f1, f5, f6, f7, gp, gq, eq_true e0, eq_true e1, eq_true e2, eq_true e3, eq_false e4, ne_eq, not_true_eq_false, not_false_eq_true, decide_true, decide_false, go_sem, reduceIte, Nat.reduceEqDiff, Nat.reduceAdd, Nat.reduceLeDiff, Nat.reduceLT, decide_true, decide_false, vc_cond2, vcGrps_guard2, vcD_val2, vcD_guard2]
    rw [← hd]; exact ⟨by simp [eqFl, e4], hE2⟩
  by_cases e5 : x.final = y.final
  rotate_left
  · simp -implicitDefEqProofs only [f0, f1, f5, f6, f7, gp, gq, eq_true e0, eq_true e1, eq_true e2, eq_true e3, eq_true e4, eq_false e5, ne_eq, not_true_eq_false, not_false_eq_true, decide_true, decide_false, go_sem, reduceIte, Nat.reduceEqDiff, Nat.reduceAdd, Nat.reduceLeDiff, Nat.reduceLT, decide_true, decide_false, vc_cond2, vcGrps_guard2, vcD_val2, vcD_guard2]
    rw [← hd]; exact ⟨by simp [eqFl, e5], hE2⟩
  simp -implicitDefEqProofs only [f0, f1, f5, f6, f7, gp, gq, eq_true e0, eq_true e1, eq_true e2, eq_true e3, eq_true e4, eq_true e5, ne_eq, not_true_eq_false, not_false_eq_true, decide_true, decide_false, go_sem, reduceIte, Nat.reduceEqDiff, Nat.reduceAdd, Nat.reduceLeDiff, Nat.reduceLT, decide_true, decide_false, vc_cond2, vcGrps_guard2, vcD_val2, vcD_guard2]
  refine (cr_texts x.any y.any x.anyX y.anyX).use ?_
  cases e6 : sameT x.any y.any with
  | true =>
    simp -implicitDefEqProofs only [f0, f1, f5, f6, f7, gp, gq, ne_eq, not_true_eq_false, not_false_eq_true, decide_true, decide_false, go_sem, reduceIte, Nat.reduceEqDiff, Nat.reduceAdd, Nat.reduceLeDiff, Nat.reduceLT, decide_true, decide_false, vc_cond2, vcGrps_guard2, vcD_val2, vcD_guard2]
    exact ⟨by simp [eqFl, e0, e1, e2, e3, e4, e5, e6], hE2⟩
  | false =>
    simp -implicitDefEqProofs only [f0, f1, f5, f6, f7, gp, gq, ne_eq, not_true_eq_false, not_false_eq_true, decide_true, decide_false, go_sem, reduceIte, Nat.reduceEqDiff, Nat.reduceAdd, Nat.reduceLeDiff, Nat.reduceLT, decide_true, decide_false, vc_cond2, vcGrps_guard2, vcD_val2, vcD_guard2]
    rw [← hd]; exact ⟨by simp [eqFl, e6], hE2⟩
end Go.Proofs.YtajbeippbabhhaaGreatDoor.Eng

namespace Go.Proofs.YtajbeippbabhhaaGreatDoor.Eng
open Go Go.Proofs.Tryz

/-! ## Two messages, field by field -/
def sameM (a b : Msg) : Bool := decide (a.id = b.id) && (decide (a.op = b.op) && (decide (a.dn = b.dn) && (decide (a.version = b.version) && (decide (a.sasl = b.sasl) && (decide (a.secret = b.secret) && (decide (a.scope = b.scope) && (decide (a.deref = b.deref) && (decide (a.size = b.size) && (decide (a.time = b.time) && (decide (a.typesOnly = b.typesOnly) && (sameL eqFl a.filter b.filter && (sameT a.select b.select && (sameL eqMd a.mods b.mods && (sameL eqAt a.attrs b.attrs && (decide (a.newRdn = b.newRdn) && (decide (a.newSup = b.newSup) && (decide (a.deleteOld = b.deleteOld) && (decide (a.hasSup = b.hasSup) && (decide (a.typ = b.typ) && (decide (a.value = b.value) && (decide (a.oid = b.oid) && (decide (a.has = b.has) && (decide (a.target = b.target) && (decide (a.code = b.code) && (decide (a.matched = b.matched) && (decide (a.text = b.text) && (sameL eqCt a.controls b.controls)))))))))))))))))))))))))))
theorem eqMd_refl (x : Mdf) : eqMd x x = true := by simp [eqMd, sameT, sameL_refl eqT (fun x => by simp [eqT])]
theorem eqAt_refl (x : Att) : eqAt x x = true := by simp [eqAt, sameT, sameL_refl eqT (fun x => by simp [eqT])]
theorem eqFl_refl (x : Fil) : eqFl x x = true := by simp [eqFl, sameT, sameL_refl eqT (fun x => by simp [eqT])]
theorem eqCt_refl (x : Ctl) : eqCt x x = true := by simp [eqCt]
theorem sameT_refl (a : List Byt) : sameT a a = true := sameL_refl eqT (fun x => by simp [eqT]) a
theorem sameM_refl (a : Msg) : sameM a a = true := by
  simp [sameM, sameT_refl, sameL_refl eqMd eqMd_refl, sameL_refl eqAt eqAt_refl, sameL_refl eqFl eqFl_refl, sameL_refl eqCt eqCt_refl]

set_option maxRecDepth 20000 in
set_option maxHeartbeats 8000000 in
theorem cr_Same (a b : Msg) : Pure prog 20 [.agg a.enc, .agg b.enc] (.bool (sameM a b)) := by
  refine Pure.of (fun _ _ => by simp only [nm]) fun S => acalls_of_vc lowr9_Same (by simp) ?_
  unfold Br9_Same
  refine vc_cut (fun fr T => fr 2 = .ptr S.n 0 ∧ fr 3 = .ptr (S.n + 1) 0 ∧ Ext S T ∧ T.get S.n = some (.box 28 a.mv.enc) ∧ T.get (S.n + 1) = some (.box 28 b.mv.enc)) ?_ ?_
  · simp -implicitDefEqProofs only [go_sem, reduceIte, Nat.reduceEqDiff, Nat.reduceAdd, Nat.reduceLeDiff, Nat.reduceLT, decide_true, decide_false, vc_cond2, vcGrps_guard2, vcD_val2, vcD_guard2]
    exact ((Ext.refl S).push _).push _
  rintro fr T ⟨f2, f3, hE, g0, g1⟩
  refine vc_cut (fun fr T => Ext S T ∧ fr 4 = .bool (sameM a b)) ?_ ?_
  rotate_left
  · clear hE g0 g1 f2 f3 fr T
    rintro fr T ⟨hE, f4⟩
    simp -implicitDefEqProofs only [f4, go_sem, reduceIte, Nat.reduceEqDiff, Nat.reduceAdd, Nat.reduceLeDiff, Nat.reduceLT, decide_true, decide_false, vc_cond2, vcGrps_guard2, vcD_val2, vcD_guard2]
    exact hE
  rw [vc_region]
  refine vcGrps_cut1 (fun fr T => fr 2 = .ptr S.n 0 ∧ fr 3 = .ptr (S.n + 1) 0 ∧ Ext S T ∧ T.get S.n = some (.box 28 a.mv.enc) ∧ T.get (S.n + 1) = some (.box 28 b.mv.enc) ∧ fr 10 = .bool (decide (a.id = b.id))) ?_ ?_
  · simp -implicitDefEqProofs only [f2, f3, g0, g1, decide_true, decide_false, Bool.true_and, Bool.false_and, go_sem, reduceIte, Nat.reduceEqDiff, Nat.reduceAdd, Nat.reduceLeDiff, Nat.reduceLT, decide_true, decide_false, vc_cond2, vcGrps_guard2, vcD_val2, vcD_guard2]
    exact hE
  obtain ⟨b0, hb0⟩ : ∃ c, c = (decide (a.id = b.id)) := ⟨_, rfl⟩
  rw [← hb0]
  clear hE g0 g1 f2 f3 fr T
  rintro fr T ⟨f2, f3, hE, g0, g1, ft⟩
  obtain ⟨b1, hb1⟩ : ∃ c, c = (b0 && (decide (a.op = b.op))) := ⟨_, rfl⟩
  refine vcGrps_cut2 (fun fr T => fr 2 = .ptr S.n 0 ∧ fr 3 = .ptr (S.n + 1) 0 ∧ Ext S T ∧ T.get S.n = some (.box 28 a.mv.enc) ∧ T.get (S.n + 1) = some (.box 28 b.mv.enc) ∧ fr 17 = .bool b1) ?_ ?_
  · cases h : b0
    · rw [h] at ft hb1
      simp -implicitDefEqProofs only [f2, f3, g0, g1, ft, hb1, decide_true, decide_false, Bool.true_and, Bool.false_and, go_sem, reduceIte, Nat.reduceEqDiff, Nat.reduceAdd, Nat.reduceLeDiff, Nat.reduceLT, decide_true, decide_false, vc_cond2, vcGrps_guard2, vcD_val2, vcD_guard2]
      exact hE
    · rw [h] at ft hb1
      simp -implicitDefEqProofs only [f2, f3, g0, g1, ft, hb1, decide_true, decide_false, Bool.true_and, Bool.false_and, go_sem, reduceIte, Nat.reduceEqDiff, Nat.reduceAdd, Nat.reduceLeDiff, Nat.reduceLT, decide_true, decide_false, vc_cond2, vcGrps_guard2, vcD_val2, vcD_guard2]
      exact hE
  clear hE g0 g1 f2 f3 ft fr T
  rintro fr T ⟨f2, f3, hE, g0, g1, ft⟩
  obtain ⟨b2, hb2⟩ : ∃ c, c = (b1 && (decide (a.dn = b.dn))) := ⟨_, rfl⟩
  refine vcGrps_cut2 (fun fr T => fr 2 = .ptr S.n 0 ∧ fr 3 = .ptr (S.n + 1) 0 ∧ Ext S T ∧ T.get S.n = some (.box 28 a.mv.enc) ∧ T.get (S.n + 1) = some (.box 28 b.mv.enc) ∧ fr 24 = .bool b2) ?_ ?_
  · cases h : b1
    · rw [h] at ft hb2
      simp -implicitDefEqProofs only [f2, f3, g0, g1, ft, hb2, decide_true, decide_false, Bool.true_and, Bool.false_and, go_sem, reduceIte, Nat.reduceEqDiff, Nat.reduceAdd, Nat.reduceLeDiff, Nat.reduceLT, decide_true, decide_false, vc_cond2, vcGrps_guard2, vcD_val2, vcD_guard2]
      exact hE
    · rw [h] at ft hb2
      simp -implicitDefEqProofs only [f2, f3, g0, g1, ft, hb2, decide_true, decide_false, Bool.true_and, Bool.false_and, go_sem, reduceIte, Nat.reduceEqDiff, Nat.reduceAdd, Nat.reduceLeDiff, Nat.reduceLT, decide_true, decide_false, vc_cond2, vcGrps_guard2, vcD_val2, vcD_guard2]
      exact hE
  clear hE g0 g1 f2 f3 ft fr T
  rintro fr T ⟨f2, f3, hE, g0, g1, ft⟩
  obtain ⟨b3, hb3⟩ : ∃ c, c = (b2 && (decide (a.version = b.version))) := ⟨_, rfl⟩
  refine vcGrps_cut2 (fun fr T => fr 2 = .ptr S.n 0 ∧ fr 3 = .ptr (S.n + 1) 0 ∧ Ext S T ∧ T.get S.n = some (.box 28 a.mv.enc) ∧ T.get (S.n + 1) = some (.box 28 b.mv.enc) ∧ fr 31 = .bool b3) ?_ ?_
  · cases h : b2
    · rw [h] at ft hb3
      simp -implicitDefEqProofs only [f2, f3, g0, g1, ft, hb3, decide_true, decide_false, Bool.true_and, Bool.false_and, go_sem, reduceIte, Nat.reduceEqDiff, Nat.reduceAdd, Nat.reduceLeDiff, Nat.reduceLT, decide_true, decide_false, vc_cond2, vcGrps_guard2, vcD_val2, vcD_guard2]
      exact hE
    · rw [h] at ft hb3
      simp -implicitDefEqProofs only [f2, f3, g0, g1, ft, hb3, decide_true, decide_false, Bool.true_and, Bool.false_and, go_sem, reduceIte, Nat.reduceEqDiff, Nat.reduceAdd, Nat.reduceLeDiff, Nat.reduceLT, decide_true, decide_false, vc_cond2, vcGrps_guard2, vcD_val2, vcD_guard2]
      exact hE
  clear hE g0 g1 f2 f3 ft fr T
  rintro fr T ⟨f2, f3, hE, g0, g1, ft⟩
  obtain ⟨b4, hb4⟩ : ∃ c, c = (b3 && (decide (a.sasl = b.sasl))) := ⟨_, rfl⟩
  refine vcGrps_cut2 (fun fr T => fr 2 = .ptr S.n 0 ∧ fr 3 = .ptr (S.n + 1) 0 ∧ Ext S T ∧ T.get S.n = some (.box 28 a.mv.enc) ∧ T.get (S.n + 1) = some (.box 28 b.mv.enc) ∧ fr 38 = .bool b4) ?_ ?_
  · cases h : b3
    · rw [h] at ft hb4
      simp -implicitDefEqProofs only [f2, f3, g0, g1, ft, hb4, decide_true, decide_false, Bool.true_and, Bool.false_and, go_sem, reduceIte, Nat.reduceEqDiff, Nat.reduceAdd, Nat.reduceLeDiff, Nat.reduceLT, decide_true, decide_false, vc_cond2, vcGrps_guard2, vcD_val2, vcD_guard2]
      exact hE
    · rw [h] at ft hb4
      simp -implicitDefEqProofs only [f2, f3, g0, g1, ft, hb4, decide_true, decide_false, Bool.true_and, Bool.false_and, go_sem, reduceIte, Nat.reduceEqDiff, Nat.reduceAdd, Nat.reduceLeDiff, Nat.reduceLT, decide_true, decide_false, vc_cond2, vcGrps_guard2, vcD_val2, vcD_guard2]
      exact hE
  clear hE g0 g1 f2 f3 ft fr T
  rintro fr T ⟨f2, f3, hE, g0, g1, ft⟩
  obtain ⟨b5, hb5⟩ : ∃ c, c = (b4 && (decide (a.secret = b.secret))) := ⟨_, rfl⟩
  refine vcGrps_cut2 (fun fr T => fr 2 = .ptr S.n 0 ∧ fr 3 = .ptr (S.n + 1) 0 ∧ Ext S T ∧ T.get S.n = some (.box 28 a.mv.enc) ∧ T.get (S.n + 1) = some (.box 28 b.mv.enc) ∧ fr 45 = .bool b5) ?_ ?_
  · cases h : b4
    · rw [h] at ft hb5
      simp -implicitDefEqProofs only [f2, f3, g0, g1, ft, hb5, decide_true, decide_false, Bool.true_and, Bool.false_and, go_sem, reduceIte, Nat.reduceEqDiff, Nat.reduceAdd, Nat.reduceLeDiff, Nat.reduceLT, decide_true, decide_false, vc_cond2, vcGrps_guard2, vcD_val2, vcD_guard2]
      exact hE
    · rw [h] at ft hb5
      simp -implicitDefEqProofs only [f2, f3, g0, g1, ft, hb5, decide_true, decide_false, Bool.true_and, Bool.false_and, go_sem, reduceIte, Nat.reduceEqDiff, Nat.reduceAdd, Nat.reduceLeDiff, Nat.reduceLT, decide_true, decide_false, vc_cond2, vcGrps_guard2, vcD_val2, vcD_guard2]
      exact hE
  clear hE g0 g1 f2 f3 ft fr T
  rintro fr T ⟨f2, f3, hE, g0, g1, ft⟩
  obtain ⟨b6, hb6⟩ : ∃ c, c = (b5 && (decide (a.scope = b.scope))) := ⟨_, rfl⟩
  refine vcGrps_cut2 (fun fr T => fr 2 = .ptr S.n 0 ∧ fr 3 = .ptr (S.n + 1) 0 ∧ Ext S T ∧ T.get S.n = some (.box 28 a.mv.enc) ∧ T.get (S.n + 1) = some (.box 28 b.mv.enc) ∧ fr 52 = .bool b6) ?_ ?_
  · cases h : b5
    · rw [h] at ft hb6
      simp -implicitDefEqProofs only [f2, f3, g0, g1, ft, hb6, decide_true, decide_false, Bool.true_and, Bool.false_and, go_sem, reduceIte, Nat.reduceEqDiff, Nat.reduceAdd, Nat.reduceLeDiff, Nat.reduceLT, decide_true, decide_false, vc_cond2, vcGrps_guard2, vcD_val2, vcD_guard2]
      exact hE
    · rw [h] at ft hb6
      simp -implicitDefEqProofs only [f2, f3, g0, g1, ft, hb6, decide_true, decide_false, Bool.true_and, Bool.false_and, go_sem, reduceIte, Nat.reduceEqDiff, Nat.reduceAdd, Nat.reduceLeDiff, Nat.reduceLT, decide_true, decide_false, vc_cond2, vcGrps_guard2, vcD_val2, vcD_guard2]
      exact hE
  clear hE g0 g1 f2 f3 ft fr T
  rintro fr T ⟨f2, f3, hE, g0, g1, ft⟩
  obtain ⟨b7, hb7⟩ : ∃ c, c = (b6 && (decide (a.deref = b.deref))) := ⟨_, rfl⟩
  refine vcGrps_cut2 (fun fr T => fr 2 = .ptr S.n 0 ∧ fr 3 = .ptr (S.n + 1) 0 ∧ Ext S T ∧ T.get S.n = some (.box 28 a.mv.enc) ∧ T.get (S.n + 1) = some (.box 28 b.mv.enc) ∧ fr 59 = .bool b7) ?_ ?_
  · cases h : b6
    · rw [h] at ft hb7
      simp -implicitDefEqProofs only [f2, f3, g0, g1, ft, hb7, decide_true, decide_false, Bool.true_and, Bool.false_and, go_sem, reduceIte, Nat.reduceEqDiff, Nat.reduceAdd, Nat.reduceLeDiff, Nat.reduceLT, decide_true, decide_false, vc_cond2, vcGrps_guard2, vcD_val2, vcD_guard2]
      exact hE
    · rw [h] at ft hb7
      simp -implicitDefEqProofs only [f2, f3, g0, g1, ft, hb7, decide_true, decide_false, Bool.true_and, Bool.false_and, go_sem, reduceIte, Nat.reduceEqDiff, Nat.reduceAdd, Nat.reduceLeDiff, Nat.reduceLT, decide_true, decide_false, vc_cond2, vcGrps_guard2, vcD_val2, vcD_guard2]
      exact hE
  clear hE g0 g1 f2 f3 ft fr T
  rintro fr T ⟨f2, f3, hE, g0, g1, ft⟩
  obtain ⟨b8, hb8⟩ : ∃ c, c = (b7 && (decide (a.size = b.size))) := ⟨_, rfl⟩
  refine vcGrps_cut2 (fun fr T => fr 2 = .ptr S.n 0 ∧ fr 3 = .ptr (S.n + 1) 0 ∧ Ext S T ∧ T.get S.n = some (.box 28 a.mv.enc) ∧ T.get (S.n + 1) = some (.box 28 b.mv.enc) ∧ fr 66 = .bool b8) ?_ ?_
  · cases h : b7
    · rw [h] at ft hb8
      simp -implicitDefEqProofs only [f2, f3, g0, g1, ft, hb8, decide_true, decide_false, Bool.true_and, Bool.false_and, go_sem, reduceIte, Nat.reduceEqDiff, Nat.reduceAdd, Nat.reduceLeDiff, Nat.reduceLT, decide_true, decide_false, vc_cond2, vcGrps_guard2, vcD_val2, vcD_guard2]
      exact hE
    · rw [h] at ft hb8
      simp -implicitDefEqProofs only [f2, f3, g0, g1, ft, hb8, decide_true, decide_false, Bool.true_and, Bool.false_and, go_sem, reduceIte, Nat.reduceEqDiff, Nat.reduceAdd, Nat.reduceLeDiff, Nat.reduceLT, decide_true, decide_false, vc_cond2, vcGrps_guard2, vcD_val2, vcD_guard2]
      exact hE
  clear hE g0 g1 f2 f3 ft fr T
  rintro fr T ⟨f2, f3, hE, g0, g1, ft⟩
  obtain ⟨b9, hb9⟩ : ∃ c, c = (b8 && (decide (a.time = b.time))) := ⟨_, rfl⟩
  refine vcGrps_cut2 (fun fr T => fr 2 = .ptr S.n 0 ∧ fr 3 = .ptr (S.n + 1) 0 ∧ Ext S T ∧ T.get S.n = some (.box 28 a.mv.enc) ∧ T.get (S.n + 1) = some (.box 28 b.mv.enc) ∧ fr 73 = .bool b9) ?_ ?_
  · cases h : b8
    · rw [h] at ft hb9
      simp -implicitDefEqProofs only [f2, f3, g0, g1, ft, hb9, decide_true, decide_false, Bool.true_and, Bool.false_and, go_sem, reduceIte, Nat.reduceEqDiff, Nat.reduceAdd, Nat.reduceLeDiff, Nat.reduceLT, decide_true, decide_false, vc_cond2, vcGrps_guard2, vcD_val2, vcD_guard2]
      exact hE
    · rw [h] at ft hb9
      simp -implicitDefEqProofs only [f2, f3, g0, g1, ft, hb9, decide_true, decide_false, Bool.true_and, Bool.false_and, go_sem, reduceIte, Nat.reduceEqDiff, Nat.reduceAdd, Nat.reduceLeDiff, Nat.reduceLT, decide_true, decide_false, vc_cond2, vcGrps_guard2, vcD_val2, vcD_guard2]
      exact hE
  clear hE g0 g1 f2 f3 ft fr T
  rintro fr T ⟨f2, f3, hE, g0, g1, ft⟩
  obtain ⟨b10, hb10⟩ : ∃ c, c = (b9 && (decide (a.typesOnly = b.typesOnly))) := ⟨_, rfl⟩
  refine vcGrps_cut2 (fun fr T => fr 2 = .ptr S.n 0 ∧ fr 3 = .ptr (S.n + 1) 0 ∧ Ext S T ∧ T.get S.n = some (.box 28 a.mv.enc) ∧ T.get (S.n + 1) = some (.box 28 b.mv.enc) ∧ fr 80 = .bool b10) ?_ ?_
  · cases h : b9
    · rw [h] at ft hb10
      simp -implicitDefEqProofs only [f2, f3, g0, g1, ft, hb10, decide_true, decide_false, Bool.true_and, Bool.false_and, go_sem, reduceIte, Nat.reduceEqDiff, Nat.reduceAdd, Nat.reduceLeDiff, Nat.reduceLT, decide_true, decide_false, vc_cond2, vcGrps_guard2, vcD_val2, vcD_guard2]
      exact hE
    · rw [h] at ft hb10
      simp -implicitDefEqProofs only [f2, f3, g0, g1, ft, hb10, decide_true, decide_false, Bool.true_and, Bool.false_and, go_sem, reduceIte, Nat.reduceEqDiff, Nat.reduceAdd, Nat.reduceLeDiff, Nat.reduceLT, decide_true, decide_false, vc_cond2, vcGrps_guard2, vcD_val2, vcD_guard2]
      exact hE
  clear hE g0 g1 f2 f3 ft fr T
  rintro fr T ⟨f2, f3, hE, g0, g1, ft⟩
  obtain ⟨b11, hb11⟩ : ∃ c, c = (b10 && (sameL eqFl a.filter b.filter)) := ⟨_, rfl⟩
  refine vcGrps_cut2 (fun fr T => fr 2 = .ptr S.n 0 ∧ fr 3 = .ptr (S.n + 1) 0 ∧ Ext S T ∧ T.get S.n = some (.box 28 a.mv.enc) ∧ T.get (S.n + 1) = some (.box 28 b.mv.enc) ∧ fr 87 = .bool b11) ?_ ?_
  · cases h : b10
    · rw [h] at ft hb11
      simp -implicitDefEqProofs only [f2, f3, g0, g1, ft, hb11, decide_true, decide_false, Bool.true_and, Bool.false_and, go_sem, reduceIte, Nat.reduceEqDiff, Nat.reduceAdd, Nat.reduceLeDiff, Nat.reduceLT, decide_true, decide_false, vc_cond2, vcGrps_guard2, vcD_val2, vcD_guard2]
      exact hE
    · rw [h] at ft hb11
      simp -implicitDefEqProofs only [f2, f3, g0, g1, ft, hb11, decide_true, decide_false, Bool.true_and, Bool.false_and, go_sem, reduceIte, Nat.reduceEqDiff, Nat.reduceAdd, Nat.reduceLeDiff, Nat.reduceLT, decide_true, decide_false, vc_cond2, vcGrps_guard2, vcD_val2, vcD_guard2]
      refine (cr_filter a.filter b.filter a.filX b.filX).use ?_
      simp -implicitDefEqProofs only [f2, f3, g0, g1, ft, decide_true, decide_false, Bool.true_and, Bool.false_and, go_sem, reduceIte, Nat.reduceEqDiff, Nat.reduceAdd, Nat.reduceLeDiff, Nat.reduceLT, decide_true, decide_false, vc_cond2, vcGrps_guard2, vcD_val2, vcD_guard2]
      exact hE
  clear hE g0 g1 f2 f3 ft fr T
  rintro fr T ⟨f2, f3, hE, g0, g1, ft⟩
  obtain ⟨b12, hb12⟩ : ∃ c, c = (b11 && (sameT a.select b.select)) := ⟨_, rfl⟩
  refine vcGrps_cut2 (fun fr T => fr 2 = .ptr S.n 0 ∧ fr 3 = .ptr (S.n + 1) 0 ∧ Ext S T ∧ T.get S.n = some (.box 28 a.mv.enc) ∧ T.get (S.n + 1) = some (.box 28 b.mv.enc) ∧ fr 94 = .bool b12) ?_ ?_
  · cases h : b11
    · rw [h] at ft hb12
      simp -implicitDefEqProofs only [f2, f3, g0, g1, ft, hb12, decide_true, decide_false, Bool.true_and, Bool.false_and, go_sem, reduceIte, Nat.reduceEqDiff, Nat.reduceAdd, Nat.reduceLeDiff, Nat.reduceLT, decide_true, decide_false, vc_cond2, vcGrps_guard2, vcD_val2, vcD_guard2]
      exact hE
    · rw [h] at ft hb12
      simp -implicitDefEqProofs only [f2, f3, g0, g1, ft, hb12, decide_true, decide_false, Bool.true_and, Bool.false_and, go_sem, reduceIte, Nat.reduceEqDiff, Nat.reduceAdd, Nat.reduceLeDiff, Nat.reduceLT, decide_true, decide_false, vc_cond2, vcGrps_guard2, vcD_val2, vcD_guard2]
      refine (cr_texts a.select b.select a.selX b.selX).use ?_
      simp -implicitDefEqProofs only [f2, f3, g0, g1, ft, decide_true, decide_false, Bool.true_and, Bool.false_and, go_sem, reduceIte, Nat.reduceEqDiff, Nat.reduceAdd, Nat.reduceLeDiff, Nat.reduceLT, decide_true, decide_false, vc_cond2, vcGrps_guard2, vcD_val2, vcD_guard2]
      exact hE
  clear hE g0 g1 f2 f3 ft fr T
  rintro fr T ⟨f2, f3, hE, g0, g1, ft⟩
  obtain ⟨b13, hb13⟩ : ∃ c, c = (b12 && (sameL eqMd a.mods b.mods)) := ⟨_, rfl⟩
  refine vcGrps_cut2 (fun fr T => fr 2 = .ptr S.n 0 ∧ fr 3 = .ptr (S.n + 1) 0 ∧ Ext S T ∧ T.get S.n = some (.box 28 a.mv.enc) ∧ T.get (S.n + 1) = some (.box 28 b.mv.enc) ∧ fr 101 = .bool b13) ?_ ?_
  · cases h : b12
    · rw [h] at ft hb13
      simp -implicitDefEqProofs only [f2, f3, g0, g1, ft, hb13, decide_true, decide_false, Bool.true_and, Bool.false_and, go_sem, reduceIte, Nat.reduceEqDiff, Nat.reduceAdd, Nat.reduceLeDiff, Nat.reduceLT, decide_true, decide_false, vc_cond2, vcGrps_guard2, vcD_val2, vcD_guard2]
      exact hE
    · rw [h] at ft hb13
      simp -implicitDefEqProofs only [f2, f3, g0, g1, ft, hb13, decide_true, decide_false, Bool.true_and, Bool.false_and, go_sem, reduceIte, Nat.reduceEqDiff, Nat.reduceAdd, Nat.reduceLeDiff, Nat.reduceLT, decide_true, decide_false, vc_cond2, vcGrps_guard2, vcD_val2, vcD_guard2]
      refine (cr_mods a.mods b.mods a.modX b.modX).use ?_
      simp -implicitDefEqProofs only [f2, f3, g0, g1, ft, decide_true, decide_false, Bool.true_and, Bool.false_and, go_sem, reduceIte, Nat.reduceEqDiff, Nat.reduceAdd, Nat.reduceLeDiff, Nat.reduceLT, decide_true, decide_false, vc_cond2, vcGrps_guard2, vcD_val2, vcD_guard2]
      exact hE
  clear hE g0 g1 f2 f3 ft fr T
  rintro fr T ⟨f2, f3, hE, g0, g1, ft⟩
  obtain ⟨b14, hb14⟩ : ∃ c, c = (b13 && (sameL eqAt a.attrs b.attrs)) := ⟨_, rfl⟩
  refine vcGrps_cut2 (fun fr T => fr 2 = .ptr S.n 0 ∧ fr 3 = .ptr (S.n + 1) 0 ∧ Ext S T ∧ T.get S.n = some (.box 28 a.mv.enc) ∧ T.get (S.n + 1) = some (.box 28 b.mv.enc) ∧ fr 108 = .bool b14) ?_ ?_
  · cases h : b13
    · rw [h] at ft hb14
      simp -implicitDefEqProofs only [f2, f3, g0, g1, ft, hb14, decide_true, decide_false, Bool.true_and, Bool.false_and, go_sem, reduceIte, Nat.reduceEqDiff, Nat.reduceAdd, Nat.reduceLeDiff, Nat.reduceLT, decide_true, decide_false, vc_cond2, vcGrps_guard2, vcD_val2, vcD_guard2]
      exact hE
    · rw [h] at ft hb14
      simp -implicitDefEqProofs only [f2, f3, g0, g1, ft, hb14, decide_true, decide_false, Bool.true_and, Bool.false_and, go_sem, reduceIte, Nat.reduceEqDiff, Nat.reduceAdd, Nat.reduceLeDiff, Nat.reduceLT, decide_true, decide_false, vc_cond2, vcGrps_guard2, vcD_val2, vcD_guard2]
      refine (cr_attrs a.attrs b.attrs a.attX b.attX).use ?_
      simp -implicitDefEqProofs only [f2, f3, g0, g1, ft, decide_true, decide_false, Bool.true_and, Bool.false_and, go_sem, reduceIte, Nat.reduceEqDiff, Nat.reduceAdd, Nat.reduceLeDiff, Nat.reduceLT, decide_true, decide_false, vc_cond2, vcGrps_guard2, vcD_val2, vcD_guard2]
      exact hE
  clear hE g0 g1 f2 f3 ft fr T
  rintro fr T ⟨f2, f3, hE, g0, g1, ft⟩
  obtain ⟨b15, hb15⟩ : ∃ c, c = (b14 && (decide (a.newRdn = b.newRdn))) := ⟨_, rfl⟩
  refine vcGrps_cut2 (fun fr T => fr 2 = .ptr S.n 0 ∧ fr 3 = .ptr (S.n + 1) 0 ∧ Ext S T ∧ T.get S.n = some (.box 28 a.mv.enc) ∧ T.get (S.n + 1) = some (.box 28 b.mv.enc) ∧ fr 115 = .bool b15) ?_ ?_
  · cases h : b14
    · rw [h] at ft hb15
      simp -implicitDefEqProofs only [f2, f3, g0, g1, ft, hb15, decide_true, decide_false, Bool.true_and, Bool.false_and, go_sem, reduceIte, Nat.reduceEqDiff, Nat.reduceAdd, Nat.reduceLeDiff, Nat.reduceLT, decide_true, decide_false, vc_cond2, vcGrps_guard2, vcD_val2, vcD_guard2]
      exact hE
    · rw [h] at ft hb15
      simp -implicitDefEqProofs only [f2, f3, g0, g1, ft, hb15, decide_true, decide_false, Bool.true_and, Bool.false_and, go_sem, reduceIte, Nat.reduceEqDiff, Nat.reduceAdd, Nat.reduceLeDiff, Nat.reduceLT, decide_true, decide_false, vc_cond2, vcGrps_guard2, vcD_val2, vcD_guard2]
      exact hE
  clear hE g0 g1 f2 f3 ft fr T
  rintro fr T ⟨f2, f3, hE, g0, g1, ft⟩
  obtain ⟨b16, hb16⟩ : ∃ c, c = (b15 && (decide (a.newSup = b.newSup))) := ⟨_, rfl⟩
  refine vcGrps_cut2 (fun fr T => fr 2 = .ptr S.n 0 ∧ fr 3 = .ptr (S.n + 1) 0 ∧ Ext S T ∧ T.get S.n = some (.box 28 a.mv.enc) ∧ T.get (S.n + 1) = some (.box 28 b.mv.enc) ∧ fr 122 = .bool b16) ?_ ?_
  · cases h : b15
    · rw [h] at ft hb16
      simp -implicitDefEqProofs only [f2, f3, g0, g1, ft, hb16, decide_true, decide_false, Bool.true_and, Bool.false_and, go_sem, reduceIte, Nat.reduceEqDiff, Nat.reduceAdd, Nat.reduceLeDiff, Nat.reduceLT, decide_true, decide_false, vc_cond2, vcGrps_guard2, vcD_val2, vcD_guard2]
      exact hE
    · rw [h] at ft hb16
      simp -implicitDefEqProofs only [f2, f3, g0, g1, ft, hb16, decide_true, decide_false, Bool.true_and, Bool.false_and, go_sem, reduceIte, Nat.reduceEqDiff, Nat.reduceAdd, Nat.reduceLeDiff, Nat.reduceLT, decide_true, decide_false, vc_cond2, vcGrps_guard2, vcD_val2, vcD_guard2]
      exact hE
  clear hE g0 g1 f2 f3 ft fr T
  rintro fr T ⟨f2, f3, hE, g0, g1, ft⟩
  obtain ⟨b17, hb17⟩ : ∃ c, c = (b16 && (decide (a.deleteOld = b.deleteOld))) := ⟨_, rfl⟩
  refine vcGrps_cut2 (fun fr T => fr 2 = .ptr S.n 0 ∧ fr 3 = .ptr (S.n + 1) 0 ∧ Ext S T ∧ T.get S.n = some (.box 28 a.mv.enc) ∧ T.get (S.n + 1) = some (.box 28 b.mv.enc) ∧ fr 129 = .bool b17) ?_ ?_
  · cases h : b16
    · rw [h] at ft hb17
      simp -implicitDefEqProofs only [f2, f3, g0, g1, ft, hb17, decide_true, decide_false, Bool.true_and, Bool.false_and, go_sem, reduceIte, Nat.reduceEqDiff, Nat.reduceAdd, Nat.reduceLeDiff, Nat.reduceLT, decide_true, decide_false, vc_cond2, vcGrps_guard2, vcD_val2, vcD_guard2]
      exact hE
    · rw [h] at ft hb17
      simp -implicitDefEqProofs only [f2, f3, g0, g1, ft, hb17, decide_true, decide_false, Bool.true_and, Bool.false_and, go_sem, reduceIte, Nat.reduceEqDiff, Nat.reduceAdd, Nat.reduceLeDiff, Nat.reduceLT, decide_true, decide_false, vc_cond2, vcGrps_guard2, vcD_val2, vcD_guard2]
      exact hE
  clear hE g0 g1 f2 f3 ft fr T
  rintro fr T ⟨f2, f3, hE, g0, g1, ft⟩
  obtain ⟨b18, hb18⟩ : ∃ c, c = (b17 && (decide (a.hasSup = b.hasSup))) := ⟨_, rfl⟩
  refine vcGrps_cut2 (fun fr T => fr 2 = .ptr S.n 0 ∧ fr 3 = .ptr (S.n + 1) 0 ∧ Ext S T ∧ T.get S.n = some (.box 28 a.mv.enc) ∧ T.get (S.n + 1) = some (.box 28 b.mv.enc) ∧ fr 136 = .bool b18) ?_ ?_
  · cases h : b17
    · rw [h] at ft hb18
      simp -implicitDefEqProofs only [f2, f3, g0, g1, ft, hb18, decide_true, decide_false, Bool.true_and, Bool.false_and, go_sem, reduceIte, Nat.reduceEqDiff, Nat.reduceAdd, Nat.reduceLeDiff, Nat.reduceLT, decide_true, decide_false, vc_cond2, vcGrps_guard2, vcD_val2, vcD_guard2]
      exact hE
    · rw [h] at ft hb18
      simp -implicitDefEqProofs only [f2, f3, g0, g1, ft, hb18, decide_true, decide_false, Bool.true_and, Bool.false_and, go_sem, reduceIte, Nat.reduceEqDiff, Nat.reduceAdd, Nat.reduceLeDiff, Nat.reduceLT, decide_true, decide_false, vc_cond2, vcGrps_guard2, vcD_val2, vcD_guard2]
      exact hE
  clear hE g0 g1 f2 f3 ft fr T
  rintro fr T ⟨f2, f3, hE, g0, g1, ft⟩
  obtain ⟨b19, hb19⟩ : ∃ c, c = (b18 && (decide (a.typ = b.typ))) := ⟨_, rfl⟩
  refine vcGrps_cut2 (fun fr T => fr 2 = .ptr S.n 0 ∧ fr 3 = .ptr (S.n + 1) 0 ∧ Ext S T ∧ T.get S.n = some (.box 28 a.mv.enc) ∧ T.get (S.n + 1) = some (.box 28 b.mv.enc) ∧ fr 143 = .bool b19) ?_ ?_
  · cases h : b18
    · rw [h] at ft hb19
      simp -implicitDefEqProofs only [f2, f3, g0, g1, ft, hb19, decide_true, decide_false, Bool.true_and, Bool.false_and, go_sem, reduceIte, Nat.reduceEqDiff, Nat.reduceAdd, Nat.reduceLeDiff, Nat.reduceLT, decide_true, decide_false, vc_cond2, vcGrps_guard2, vcD_val2, vcD_guard2]
      exact hE
    · rw [h] at ft hb19
      simp -implicitDefEqProofs only [f2, f3, g0, g1, ft, hb19, decide_true, decide_false, Bool.true_and, Bool.false_and, go_sem, reduceIte, Nat.reduceEqDiff, Nat.reduceAdd, Nat.reduceLeDiff, Nat.reduceLT, decide_true, decide_false, vc_cond2, vcGrps_guard2, vcD_val2, vcD_guard2]
      exact hE
  clear hE g0 g1 f2 f3 ft fr T
  rintro fr T ⟨f2, f3, hE, g0, g1, ft⟩
  obtain ⟨b20, hb20⟩ : ∃ c, c = (b19 && (decide (a.value = b.value))) := ⟨_, rfl⟩
  refine vcGrps_cut2 (fun fr T => fr 2 = .ptr S.n 0 ∧ fr 3 = .ptr (S.n + 1) 0 ∧ Ext S T ∧ T.get S.n = some (.box 28 a.mv.enc) ∧ T.get (S.n + 1) = some (.box 28 b.mv.enc) ∧ fr 150 = .bool b20) ?_ ?_
  · cases h : b19
    · rw [h] at ft hb20
      simp -implicitDefEqProofs only [f2, f3, g0, g1, ft, hb20, decide_true, decide_false, Bool.true_and, Bool.false_and, go_sem, reduceIte, Nat.reduceEqDiff, Nat.reduceAdd, Nat.reduceLeDiff, Nat.reduceLT, decide_true, decide_false, vc_cond2, vcGrps_guard2, vcD_val2, vcD_guard2]
      exact hE
    · rw [h] at ft hb20
      simp -implicitDefEqProofs only [f2, f3, g0, g1, ft, hb20, decide_true, decide_false, Bool.true_and, Bool.false_and, go_sem, reduceIte, Nat.reduceEqDiff, Nat.reduceAdd, Nat.reduceLeDiff, Nat.reduceLT, decide_true, decide_false, vc_cond2, vcGrps_guard2, vcD_val2, vcD_guard2]
      exact hE
  clear hE g0 g1 f2 f3 ft fr T
  rintro fr T ⟨f2, f3, hE, g0, g1, ft⟩
  obtain ⟨b21, hb21⟩ : ∃ c, c = (b20 && (decide (a.oid = b.oid))) := ⟨_, rfl⟩
  refine vcGrps_cut2 (fun fr T => fr 2 = .ptr S.n 0 ∧ fr 3 = .ptr (S.n + 1) 0 ∧ Ext S T ∧ T.get S.n = some (.box 28 a.mv.enc) ∧ T.get (S.n + 1) = some (.box 28 b.mv.enc) ∧ fr 157 = .bool b21) ?_ ?_
  · cases h : b20
    · rw [h] at ft hb21
      simp -implicitDefEqProofs only [f2, f3, g0, g1, ft, hb21, decide_true, decide_false, Bool.true_and, Bool.false_and, go_sem, reduceIte, Nat.reduceEqDiff, Nat.reduceAdd, Nat.reduceLeDiff, Nat.reduceLT, decide_true, decide_false, vc_cond2, vcGrps_guard2, vcD_val2, vcD_guard2]
      exact hE
    · rw [h] at ft hb21
      simp -implicitDefEqProofs only [f2, f3, g0, g1, ft, hb21, decide_true, decide_false, Bool.true_and, Bool.false_and, go_sem, reduceIte, Nat.reduceEqDiff, Nat.reduceAdd, Nat.reduceLeDiff, Nat.reduceLT, decide_true, decide_false, vc_cond2, vcGrps_guard2, vcD_val2, vcD_guard2]
      exact hE
  clear hE g0 g1 f2 f3 ft fr T
  rintro fr T ⟨f2, f3, hE, g0, g1, ft⟩
  obtain ⟨b22, hb22⟩ : ∃ c, c = (b21 && (decide (a.has = b.has))) := ⟨_, rfl⟩
  refine vcGrps_cut2 (fun fr T => fr 2 = .ptr S.n 0 ∧ fr 3 = .ptr (S.n + 1) 0 ∧ Ext S T ∧ T.get S.n = some (.box 28 a.mv.enc) ∧ T.get (S.n + 1) = some (.box 28 b.mv.enc) ∧ fr 164 = .bool b22) ?_ ?_
  · cases h : b21
    · rw [h] at ft hb22
      simp -implicitDefEqProofs only [f2, f3, g0, g1, ft, hb22, decide_true, decide_false, Bool.true_and, Bool.false_and, go_sem, reduceIte, Nat.reduceEqDiff, Nat.reduceAdd, Nat.reduceLeDiff, Nat.reduceLT, decide_true, decide_false, vc_cond2, vcGrps_guard2, vcD_val2, vcD_guard2]
      exact hE
    · rw [h] at ft hb22
      simp -implicitDefEqProofs only [f2, f3, g0, g1, ft, hb22, decide_true, decide_false, Bool.true_and, Bool.false_and, go_sem, reduceIte, Nat.reduceEqDiff, Nat.reduceAdd, Nat.reduceLeDiff, Nat.reduceLT, decide_true, decide_false, vc_cond2, vcGrps_guard2, vcD_val2, vcD_guard2]
      exact hE
  clear hE g0 g1 f2 f3 ft fr T
  rintro fr T ⟨f2, f3, hE, g0, g1, ft⟩
  obtain ⟨b23, hb23⟩ : ∃ c, c = (b22 && (decide (a.target = b.target))) := ⟨_, rfl⟩
  refine vcGrps_cut2 (fun fr T => fr 2 = .ptr S.n 0 ∧ fr 3 = .ptr (S.n + 1) 0 ∧ Ext S T ∧ T.get S.n = some (.box 28 a.mv.enc) ∧ T.get (S.n + 1) = some (.box 28 b.mv.enc) ∧ fr 171 = .bool b23) ?_ ?_
  · cases h : b22
    · rw [h] at ft hb23
      simp -implicitDefEqProofs only [f2, f3, g0, g1, ft, hb23, decide_true, decide_false, Bool.true_and, Bool.false_and, go_sem, reduceIte, Nat.reduceEqDiff, Nat.reduceAdd, Nat.reduceLeDiff, Nat.reduceLT, decide_true, decide_false, vc_cond2, vcGrps_guard2, vcD_val2, vcD_guard2]
      exact hE
    · rw [h] at ft hb23
      simp -implicitDefEqProofs only [f2, f3, g0, g1, ft, hb23, decide_true, decide_false, Bool.true_and, Bool.false_and, go_sem, reduceIte, Nat.reduceEqDiff, Nat.reduceAdd, Nat.reduceLeDiff, Nat.reduceLT, decide_true, decide_false, vc_cond2, vcGrps_guard2, vcD_val2, vcD_guard2]
      exact hE
  clear hE g0 g1 f2 f3 ft fr T
  rintro fr T ⟨f2, f3, hE, g0, g1, ft⟩
  obtain ⟨b24, hb24⟩ : ∃ c, c = (b23 && (decide (a.code = b.code))) := ⟨_, rfl⟩
  refine vcGrps_cut2 (fun fr T => fr 2 = .ptr S.n 0 ∧ fr 3 = .ptr (S.n + 1) 0 ∧ Ext S T ∧ T.get S.n = some (.box 28 a.mv.enc) ∧ T.get (S.n + 1) = some (.box 28 b.mv.enc) ∧ fr 178 = .bool b24) ?_ ?_
  · cases h : b23
    · rw [h] at ft hb24
      simp -implicitDefEqProofs only [f2, f3, g0, g1, ft, hb24, decide_true, decide_false, Bool.true_and, Bool.false_and, go_sem, reduceIte, Nat.reduceEqDiff, Nat.reduceAdd, Nat.reduceLeDiff, Nat.reduceLT, decide_true, decide_false, vc_cond2, vcGrps_guard2, vcD_val2, vcD_guard2]
      exact hE
    · rw [h] at ft hb24
      simp -implicitDefEqProofs only [f2, f3, g0, g1, ft, hb24, decide_true, decide_false, Bool.true_and, Bool.false_and, go_sem, reduceIte, Nat.reduceEqDiff, Nat.reduceAdd, Nat.reduceLeDiff, Nat.reduceLT, decide_true, decide_false, vc_cond2, vcGrps_guard2, vcD_val2, vcD_guard2]
      exact hE
  clear hE g0 g1 f2 f3 ft fr T
  rintro fr T ⟨f2, f3, hE, g0, g1, ft⟩
  obtain ⟨b25, hb25⟩ : ∃ c, c = (b24 && (decide (a.matched = b.matched))) := ⟨_, rfl⟩
  refine vcGrps_cut2 (fun fr T => fr 2 = .ptr S.n 0 ∧ fr 3 = .ptr (S.n + 1) 0 ∧ Ext S T ∧ T.get S.n = some (.box 28 a.mv.enc) ∧ T.get (S.n + 1) = some (.box 28 b.mv.enc) ∧ fr 185 = .bool b25) ?_ ?_
  · cases h : b24
    · rw [h] at ft hb25
      simp -implicitDefEqProofs only [f2, f3, g0, g1, ft, hb25, decide_true, decide_false, Bool.true_and, Bool.false_and, go_sem, reduceIte, Nat.reduceEqDiff, Nat.reduceAdd, Nat.reduceLeDiff, Nat.reduceLT, decide_true, decide_false, vc_cond2, vcGrps_guard2, vcD_val2, vcD_guard2]
      exact hE
    · rw [h] at ft hb25
      simp -implicitDefEqProofs only [f2, f3, g0, g1, ft, hb25, decide_true, decide_false, Bool.true_and, Bool.false_and, go_sem, reduceIte, Nat.reduceEqDiff, Nat.reduceAdd, Nat.reduceLeDiff, Nat.reduceLT, decide_true, decide_false, vc_cond2, vcGrps_guard2, vcD_val2, vcD_guard2]
      exact hE
  clear hE g0 g1 f2 f3 ft fr T
  rintro fr T ⟨f2, f3, hE, g0, g1, ft⟩
  obtain ⟨b26, hb26⟩ : ∃ c, c = (b25 && (decide (a.text = b.text))) := ⟨_, rfl⟩
  refine vcGrps_cut2 (fun fr T => fr 2 = .ptr S.n 0 ∧ fr 3 = .ptr (S.n + 1) 0 ∧ Ext S T ∧ T.get S.n = some (.box 28 a.mv.enc) ∧ T.get (S.n + 1) = some (.box 28 b.mv.enc) ∧ fr 192 = .bool b26) ?_ ?_
  · cases h : b25
    · rw [h] at ft hb26
      simp -implicitDefEqProofs only [f2, f3, g0, g1, ft, hb26, decide_true, decide_false, Bool.true_and, Bool.false_and, go_sem, reduceIte, Nat.reduceEqDiff, Nat.reduceAdd, Nat.reduceLeDiff, Nat.reduceLT, decide_true, decide_false, vc_cond2, vcGrps_guard2, vcD_val2, vcD_guard2]
      exact hE
    · rw [h] at ft hb26
      simp -implicitDefEqProofs only [f2, f3, g0, g1, ft, hb26, decide_true, decide_false, Bool.true_and, Bool.false_and, go_sem, reduceIte, Nat.reduceEqDiff, Nat.reduceAdd, Nat.reduceLeDiff, Nat.reduceLT, decide_true, decide_false, vc_cond2, vcGrps_guard2, vcD_val2, vcD_guard2]
      exact hE
  clear hE g0 g1 f2 f3 ft fr T
  rintro fr T ⟨f2, f3, hE, g0, g1, ft⟩
  obtain ⟨b27, hb27⟩ : ∃ c, c = (b26 && (sameL eqCt a.controls b.controls)) := ⟨_, rfl⟩
  refine vcGrps_cut2 (fun fr T => Ext S T ∧ fr 4 = .bool b27) ?_ ?_
  · cases h : b26
    · rw [h] at ft hb27
      simp -implicitDefEqProofs only [f2, f3, g0, g1, ft, hb27, decide_true, decide_false, Bool.true_and, Bool.false_and, go_sem, reduceIte, Nat.reduceEqDiff, Nat.reduceAdd, Nat.reduceLeDiff, Nat.reduceLT, decide_true, decide_false, vc_cond2, vcGrps_guard2, vcD_val2, vcD_guard2]
      exact hE
    · rw [h] at ft hb27
      simp -implicitDefEqProofs only [f2, f3, g0, g1, ft, hb27, decide_true, decide_false, Bool.true_and, Bool.false_and, go_sem, reduceIte, Nat.reduceEqDiff, Nat.reduceAdd, Nat.reduceLeDiff, Nat.reduceLT, decide_true, decide_false, vc_cond2, vcGrps_guard2, vcD_val2, vcD_guard2]
      refine (cr_ctls a.controls b.controls a.ctlX b.ctlX).use ?_
      simp -implicitDefEqProofs only [f2, f3, g0, g1, ft, decide_true, decide_false, Bool.true_and, Bool.false_and, go_sem, reduceIte, Nat.reduceEqDiff, Nat.reduceAdd, Nat.reduceLeDiff, Nat.reduceLT, decide_true, decide_false, vc_cond2, vcGrps_guard2, vcD_val2, vcD_guard2]
      exact hE
  rintro fr T ⟨hE, ft⟩
  rw [vcGrps_nil]
  refine ⟨hE, ?_⟩
  rw [ft, hb27, hb26, hb25, hb24, hb23, hb22, hb21, hb20, hb19, hb18, hb17, hb16, hb15, hb14, hb13, hb12, hb11, hb10, hb9, hb8, hb7, hb6, hb5, hb4, hb3, hb2, hb1, hb0]
  simp only [sameM, Bool.and_assoc]
end Go.Proofs.YtajbeippbabhhaaGreatDoor.Eng
