import Derived.Test.YtmlllckecalaaaaBb468770d
set_option linter.unusedVariables false
set_option linter.unusedSimpArgs false
namespace Go.Proofs.Ytmlllckecalaaaa.Eng
open Go Go.Proofs.Try

/-! ## What is read is right -/
theorem lenS_mono (a b : Nat) (h : a ≤ b) : (lenS a).length ≤ (lenS b).length := by
  rw [lenS_len, lenS_len]
  repeat' split
  all_goals omega
theorem rhead_len (b : List UInt8) (h : (rheadS b).2.2 = 0) (hm : (rheadS b).2.1 ≤ 65536) : 1 + (lenS (rheadS b).2.1).length ≤ (rheadS b).1 ∧ (b.headD 0).toNat % 32 ≠ 31 := by
  match b with
  | [] => simp [rheadS] at h
  | [c] => simp only [rheadS] at h; split at h <;> simp at h
  | c :: d :: r =>
    simp only [List.headD_cons]
    by_cases h1 : c.toNat % 32 = 31
    · rw [rheadS, if_pos h1] at h; simp at h
    refine ⟨?_, h1⟩
    rw [rheadS, if_neg h1] at h hm ⊢
    by_cases h2 : d.toNat < 128
    · rw [if_pos h2]; simp only; rw [lenS_len, if_pos h2]; omega
    rw [if_neg h2] at h hm ⊢
    by_cases h3 : d.toNat < 129 ∨ d.toNat > 132
    · rw [if_pos h3] at h; simp at h
    rw [if_neg h3] at h hm ⊢
    by_cases h4 : r.length < d.toNat - 128
    · rw [if_pos h4] at h; simp at h
    rw [if_neg h4] at h hm ⊢
    simp only at hm ⊢
    have hv := getS_lt (r.take (d.toNat - 128))
    rw [List.length_take, Nat.min_eq_left (by omega)] at hv
    generalize getS (r.take (d.toNat - 128)) = m at hv hm ⊢
    have hk : d.toNat - 128 = 1 ∨ d.toNat - 128 = 2 ∨ d.toNat - 128 = 3 ∨ d.toNat - 128 = 4 := by omega
    rw [lenS_len]
    rcases hk with hk | hk | hk | hk <;> rw [hk] at hv ⊢ <;> repeat' split
    all_goals omega
theorem head_len (b : List UInt8) (h : (headS b).2.2 = 0) : 1 + (lenS (headS b).2.1).length ≤ (headS b).1 ∧ (b.headD 0).toNat % 32 ≠ 31 := by
  obtain ⟨h1, h2⟩ := headS_eq b h
  rw [h1] at h ⊢
  exact rhead_len b h (by omega)

theorem sizeSs_kids {rd : List UInt8 → RR} (hrd : ∀ c k r, rd c = .ok k r → sizeS k + r.length ≤ c.length) : ∀ (g : Nat) (c : List UInt8) (ks : List Elem) (n : Nat), kidsF rd g c = .ok ks → sizeSs ks n ≤ n + c.length
  | 0, c, ks, n, h => by simp only [kidsF] at h; cases h; simp [sizeSs]
  | g + 1, c, ks, n, h => by
    simp only [kidsF] at h
    split at h
    · cases h; simp [sizeSs]
    · split at h
      · cases h
      · rename_i k r hr
        split at h
        · cases h
        · rename_i ks' hks
          cases h
          have h1 := hrd _ _ _ hr
          have h2 := sizeSs_kids hrd g r ks' (min (n + sizeS k) 65537) hks
          simp only [sizeSs]; omega
theorem kids_count {rd : List UInt8 → RR} (hrd : ∀ c k r, rd c = .ok k r → r.length + 1 ≤ c.length) : ∀ (g : Nat) (c : List UInt8) (ks : List Elem), kidsF rd g c = .ok ks → ks.length ≤ c.length
  | 0, c, ks, h => by simp only [kidsF] at h; cases h; simp
  | g + 1, c, ks, h => by
    simp only [kidsF] at h
    split at h
    · cases h; simp
    · split at h
      · cases h
      · rename_i k r hr
        split at h
        · cases h
        · rename_i ks' hks
          cases h
          have h1 := hrd _ _ _ hr
          have h2 := kids_count hrd g r ks' hks
          simp only [List.length_cons]; omega
theorem deeps_all (w : Int) : ∀ (ks : List Elem), (∀ k ∈ ks, deepS k w = false) → deepSs ks w = false
  | [], _ => rfl
  | k :: ks, h => by simp only [deepSs, h k (by simp), deeps_all w ks fun x hx => h x (by simp [hx]), Bool.or_false]
theorem tags_all : ∀ (ks : List Elem), (∀ k ∈ ks, allTag k = true) → allTags ks = true
  | [], _ => rfl
  | k :: ks, h => by simp only [allTags, h k (by simp), tags_all ks fun x hx => h x (by simp [hx]), Bool.and_true]
theorem forms_all : ∀ (ks : List Elem), (∀ k ∈ ks, allForm k = true) → allForms ks = true
  | [], _ => rfl
  | k :: ks, h => by simp only [allForms, h k (by simp), forms_all ks fun x hx => h x (by simp [hx]), Bool.and_true]

theorem tag_read (b : List UInt8) (h : (headS b).2.2 = 0) (k : Bool) (s : List UInt8) (ks : List Elem) (ext : List (List AV)) : tagOk (.mk (clsB b) (tagB b) k s ks ext) = true ∧ i64ok (clsB b) ∧ i64ok (tagB b) := by
  have := (head_len b h).2
  have h2 := (b.headD 0).toNat_lt
  have hc : clsB b = (b.headD 0).toNat / 64 := rfl
  have ht : tagB b = (b.headD 0).toNat % 32 := rfl
  refine ⟨?_, by unfold i64ok; omega, by unfold i64ok; omega⟩
  have : (0 : Int) ≤ (clsB b : Nat) ∧ ((clsB b : Nat) : Int) ≤ 3 ∧ (0 : Int) ≤ (tagB b : Nat) ∧ ((tagB b : Nat) : Int) ≤ 30 := by omega
  simpa [tagOk, Elem.cls, Elem.tag] using this
theorem size_read (b : List UInt8) (h : (headS b).2.2 = 0) (e : Elem) (hN : sizeSs e.kids e.bytes.length ≤ (headS b).2.1) : sizeS e ≤ (headS b).1 + (headS b).2.1 := by
  have h1 := (head_len b h).1
  have h2 := (headS_lt b).2.1
  rw [sizeS_eta]
  have := lenS_mono (min (sizeSs e.kids e.bytes.length) 65537) (headS b).2.1 (by omega)
  omega

theorem read_valid : ∀ (f : Nat) (b : List UInt8) (w : Nat) (x : Elem) (r : List UInt8), readF f b w = .ok x r →
    allTag x = true ∧ allForm x = true ∧ deepS x w = false ∧ sizeS x ≤ (headS b).1 + (headS b).2.1 ∧ okE x
  | 0, b, w, x, r, h => by simp [readF] at h
  | f + 1, b, w, x, r, h => by
    obtain ⟨h1, h2, h3, _, _⟩ := readF_ok h
    obtain ⟨c1, c2, c3⟩ := contB_len b h1 h3
    cases hc : consB b with
    | false =>
      rw [readF_leaf h1 h2 h3 hc] at h
      cases h
      obtain ⟨t1, t2, t3⟩ := tag_read b h1 false (contB b) [] []
      refine ⟨?_, rfl, ?_, size_read b h1 _ (by simp [Elem.kids, Elem.bytes, sizeSs]; omega), ?_⟩
      · simp only [allTag, allTags, Bool.and_true]; exact t1
      · simp only [deepS, deepSs, Bool.or_false, decide_eq_false_iff_not]; omega
      · simp only [okE, okEs, List.length_nil, and_true]; exact ⟨t2, t3, by unfold maxB; omega, by unfold maxB; omega⟩
    | true =>
      rw [readF_node h1 h2 h3 hc] at h
      generalize hk : kidsF (fun c => readF f c (w + 1)) (contB b).length (contB b) = kk at h
      cases kk with
      | err n => cases h
      | ok ks =>
        simp only [endK] at h
        cases h
        have all := kidsF_all (p := fun x => allTag x = true ∧ allForm x = true ∧ deepS x ((w : Int) + 1) = false ∧ okE x) (fun c k r hr => by
          obtain ⟨a1, a2, a3, a4, a5⟩ := read_valid f c (w + 1) k r hr
          exact ⟨a1, a2, by push_cast at a3; exact a3, a5⟩) _ _ _ hk
        have hsz := sizeSs_kids (fun c k r hr => by
          obtain ⟨_, _, _, a4, _⟩ := read_valid f c (w + 1) k r hr
          obtain ⟨_, _, b3, b4, _⟩ := readF_ok hr
          rw [b4, restB, List.length_drop]; omega) _ _ _ 0 hk
        have hct := kids_count (fun c k r hr => by obtain ⟨_, _, _, _, b5⟩ := readF_ok hr; omega) _ _ _ hk
        obtain ⟨t1, t2, t3⟩ := tag_read b h1 true [] ks []
        refine ⟨?_, ?_, ?_, size_read b h1 _ (by simp only [Elem.kids, Elem.bytes, List.length_nil]; omega), ?_⟩
        · simp only [allTag, Bool.and_eq_true]; exact ⟨t1, tags_all ks fun k hk => (all k hk).1⟩
        · simp only [allForm, Bool.and_eq_true]; exact ⟨rfl, forms_all ks fun k hk => (all k hk).2.1⟩
        · simp only [deepS, Bool.or_eq_false_iff, decide_eq_false_iff_not]; exact ⟨by omega, deeps_all _ ks fun k hk => (all k hk).2.2.1⟩
        · simp only [okE, List.length_nil]; exact ⟨t2, t3, by unfold maxB; omega, by unfold maxB; omega, okEs_of ks fun k hk => (all k hk).2.2.2⟩

mutual
theorem each_all (p : Elem → Bool) (q : Elem → Bool) (hq : ∀ e, q e = true → p e = true ∧ ∀ k ∈ e.kids, q k = true) : ∀ (e : Elem) (w : Int), q e = true → eachS p e w = true
  | .mk c t k b ks ext, w, h => by
    obtain ⟨h1, h2⟩ := hq _ h
    simp only [eachS, h1, Bool.true_and, eachs_all p q hq ks (w + 1) h2, Bool.or_true]
theorem eachs_all (p : Elem → Bool) (q : Elem → Bool) (hq : ∀ e, q e = true → p e = true ∧ ∀ k ∈ e.kids, q k = true) : ∀ (ks : List Elem) (w : Int), (∀ k ∈ ks, q k = true) → eachSs p ks w = true
  | [], w, _ => rfl
  | k :: ks, w, h => by simp only [eachSs, each_all p q hq k w (h k (by simp)), eachs_all p q hq ks w fun x hx => h x (by simp [hx]), Bool.and_true]
end
theorem allForms_mem : ∀ (ks : List Elem), allForms ks = true → ∀ k ∈ ks, allForm k = true
  | [], _, k, h => by simp at h
  | x :: ks, h, k, hk => by
    simp only [allForms, Bool.and_eq_true] at h
    rcases List.mem_cons.1 hk with rfl | hk
    · exact h.1
    · exact allForms_mem ks h.2 k hk
theorem allForm_eta {e : Elem} (h : allForm e = true) : formOk e = true ∧ ∀ k ∈ e.kids, allForm k = true := by
  cases e; simp only [allForm, Bool.and_eq_true, Elem.kids] at h ⊢
  exact ⟨h.1, allForms_mem _ h.2⟩
theorem write_of {e : Elem} (h1 : allTag e = true) (h2 : allForm e = true) (h3 : deepS e 0 = false) (h4 : sizeS e ≤ 65536) : writeS e = (putS e, 0) := by
  have a1 := each_all tagOk allTag (fun e h => allTag_eta h) e 0 h1
  have a2 := each_all formOk allForm (fun e h => allForm_eta h) e 0 h2
  have a4 : ¬ sizeS e > 65536 := by omega
  simp [writeS, a1, a2, h3, a4]

/-! ## A copy is written alike -/
mutual
theorem each_copy (p : Elem → Bool) (hp : ∀ e, p (copyE e) = p e) : ∀ (e : Elem) (w : Int), eachS p (copyE e) w = eachS p e w
  | .mk c t k b ks ext, w => by
    have h := hp (.mk c t k b ks ext)
    simp only [copyE] at h ⊢
    simp only [eachS, h, eachs_copy p hp ks (w + 1)]
theorem eachs_copy (p : Elem → Bool) (hp : ∀ e, p (copyE e) = p e) : ∀ (ks : List Elem) (w : Int), eachSs p (copyEs ks) w = eachSs p ks w
  | [], w => rfl
  | k :: ks, w => by simp only [copyEs, eachSs, each_copy p hp k w, eachs_copy p hp ks w]
end
theorem tag_copy (e : Elem) : tagOk (copyE e) = tagOk e := by cases e; rfl
theorem form_copy (e : Elem) : formOk (copyE e) = formOk e := by
  cases e with
  | mk c t k b ks ext =>
    simp only [copyE, formOk, Elem.cons, Elem.bytes, Elem.kids, copyEs_length]
    cases k <;> rfl
mutual
theorem deep_copy : ∀ (e : Elem) (w : Int), deepS (copyE e) w = deepS e w
  | .mk c t k b ks ext, w => by simp only [copyE, deepS, deeps_copy ks (w + 1)]
theorem deeps_copy : ∀ (ks : List Elem) (w : Int), deepSs (copyEs ks) w = deepSs ks w
  | [], w => rfl
  | k :: ks, w => by simp only [copyEs, deepSs, deep_copy k w, deeps_copy ks w]
end
mutual
theorem size_copy : ∀ (e : Elem), sizeS (copyE e) = sizeS e
  | .mk c t k b ks ext => by simp only [copyE, sizeS, sizes_copy ks]
theorem sizes_copy : ∀ (ks : List Elem) (n : Nat), sizeSs (copyEs ks) n = sizeSs ks n
  | [], n => rfl
  | k :: ks, n => by simp only [copyEs, sizeSs, size_copy k, sizes_copy ks]
end
theorem sum_copy : ∀ (ks : List Elem), sumS (copyEs ks) = sumS ks
  | [] => rfl
  | k :: ks => by simp only [copyEs, sumS, size_copy k, sum_copy ks]
mutual
theorem put_copy : ∀ (e : Elem), putS (copyE e) = putS e
  | .mk c t k b ks ext => by simp only [copyE, putS, sum_copy ks, puts_copy ks, firstS, Elem.cls, Elem.tag, Elem.cons]; rfl
theorem puts_copy : ∀ (ks : List Elem), putSs (copyEs ks) = putSs ks
  | [] => rfl
  | k :: ks => by simp only [copyEs, putSs, put_copy k, puts_copy ks]
end
theorem write_copy (e : Elem) : writeS (copyE e) = writeS e := by
  simp only [writeS, each_copy tagOk tag_copy, each_copy formOk form_copy, deep_copy, size_copy, put_copy]

theorem readS_ok {b : List UInt8} (h : (readS b).2 = 0) : writeS (readS b).1 = (putS (readS b).1, 0) ∧ okE (readS b).1 ∧ (putS (readS b).1).length ≤ b.length := by
  unfold readS at h ⊢
  cases hr : readF (b.length + 1) b 0 with
  | err n => rw [hr] at h; have := (readF_err _ _ _ _ hr).1; exact absurd h this
  | ok x r =>
    rw [hr] at h
    simp only at h ⊢
    by_cases hr0 : r = []
    · rw [if_pos hr0]
      obtain ⟨a1, a2, a3, a4, a5⟩ := read_valid _ _ _ _ _ hr
      obtain ⟨_, _, b3, _, _⟩ := readF_ok hr
      have := (headS_lt b).2.1
      have hs : sizeS x ≤ 65536 := by omega
      exact ⟨write_of a1 a2 a3 hs, a5, by show (putS x).length ≤ b.length; rw [putS_length x (by omega)]; omega⟩
    · rw [if_neg hr0] at h; cases h

theorem c9 (b : List UInt8) : Pure prog 9 [.str b] (.bool true) := by
  refine Pure.of (fun _ _ => by simp only [nm]) fun S => acalls_of_vc low9 (by simp) ?_
  have hx := Ext.refl S
  simp -implicitDefEqProofs only [B9, vc_region, vc_quiet, vcD_nil, vcD_val2, vcDO_val, vcDO_asks, vcD_eff, vcD_guard2, vcDG_TT, vcDG_FF, vcDG_TF, vcDG_FT, vcDG_und, vcDG_Tdec, vcDG_Fdec, vcDEff, saysAll, pendAll, pendNext, addPend, Says, vc_bad, vc_seq, vc_ret, vc_skip, vc_block, vc_exit, vcGrps_nil, vcGrps_cons, vcGrps_guard2, vcG2_bool, vcG2_und, vcGB_TT, vcGB_FF, vcGB_TF, vcGB_FT, vcGB_Tdec, vcGB_Fdec, vcOps_nil, vcOps_cons, vcOut, KCall_ret, KCall_pan, skipF_nil, skipF_cons, Qseq_normal, Qseq_ret, Qseq_exit, Qseq_pan, Qblk_normal, Qblk_exit, Qblk_ret, Qblk_pan, Qpan_eq, Qcut_normal, Qcut_exit, Qcut_ret, Qcut_pan, Qloop_normal, Qloop_exit, Qloop_ret, Qloop_pan,
    stepOp, ev, upd_apply, putF, cellsOf, deref, faddrV, mk, abin, abinI, abinS, ibits, aeqb, aun, fldV, idxOf, elems, isPtr, putRef, splice, fillA, rowsA, minV, peqV, elemsA, rowBytes, strOf, Store.get_push, Store.get_set, Store.n_push, Store.n_set,
    Option.map_some, Option.map_none, reduceIte, Nat.reduceEqDiff, Nat.reduceAdd, Nat.reduceLeDiff, Nat.reduceLT, Nat.zero_add, Nat.add_zero, Nat.add_assoc, Nat.add_left_cancel_iff, Nat.left_eq_add, Nat.add_eq_left, Nat.lt_irrefl, Nat.le_refl,
    List.drop_zero, List.drop_succ_cons, List.take_succ_cons, List.take_zero, List.headD_cons, List.length_cons, List.length_nil, List.getElem?_cons_zero, List.getElem?_cons_succ, List.set_cons_zero, List.set_cons_succ, List.map_cons, List.map_nil,
    Bool.not_true, Bool.not_false, Bool.false_eq_true, Bool.true_eq_false, Bool.not_eq_true', Bool.not_eq_false', eq_self, false_imp_iff, true_imp_iff, and_true, true_and, and_false, false_and, or_true, true_or, initFr, fr0_at, Qend, resL, resV1, pack,
    decide_eq_true_eq, decide_eq_false_iff_not, Int.toNat_natCast, Option.some.injEq, exists_eq_left', vc_cond2, vcC2_bool, vcCB_T, vcCB_F, vcCB_dec, decide_true, decide_false]
  intro _
  refine ⟨fun _ => ?_, fun _ => ?_⟩
  · refine c13.use ?_
    simp -implicitDefEqProofs only [vc_region, vc_quiet, vcD_nil, vcD_val2, vcDO_val, vcDO_asks, vcD_eff, vcD_guard2, vcDG_TT, vcDG_FF, vcDG_TF, vcDG_FT, vcDG_und, vcDG_Tdec, vcDG_Fdec, vcDEff, saysAll, pendAll, pendNext, addPend, Says, vc_bad, vc_seq, vc_ret, vc_skip, vc_block, vc_exit, vcGrps_nil, vcGrps_cons, vcGrps_guard2, vcG2_bool, vcG2_und, vcGB_TT, vcGB_FF, vcGB_TF, vcGB_FT, vcGB_Tdec, vcGB_Fdec, vcOps_nil, vcOps_cons, vcOut, KCall_ret, KCall_pan, skipF_nil, skipF_cons, Qseq_normal, Qseq_ret, Qseq_exit, Qseq_pan, Qblk_normal, Qblk_exit, Qblk_ret, Qblk_pan, Qpan_eq, Qcut_normal, Qcut_exit, Qcut_ret, Qcut_pan, Qloop_normal, Qloop_exit, Qloop_ret, Qloop_pan,
    stepOp, ev, upd_apply, putF, cellsOf, deref, faddrV, mk, abin, abinI, abinS, ibits, aeqb, aun, fldV, idxOf, elems, isPtr, putRef, splice, fillA, rowsA, minV, peqV, elemsA, rowBytes, strOf, Store.get_push, Store.get_set, Store.n_push, Store.n_set,
    Option.map_some, Option.map_none, reduceIte, Nat.reduceEqDiff, Nat.reduceAdd, Nat.reduceLeDiff, Nat.reduceLT, Nat.zero_add, Nat.add_zero, Nat.add_assoc, Nat.add_left_cancel_iff, Nat.left_eq_add, Nat.add_eq_left, Nat.lt_irrefl, Nat.le_refl,
    List.drop_zero, List.drop_succ_cons, List.take_succ_cons, List.take_zero, List.headD_cons, List.length_cons, List.length_nil, List.getElem?_cons_zero, List.getElem?_cons_succ, List.set_cons_zero, List.set_cons_succ, List.map_cons, List.map_nil,
    Bool.not_true, Bool.not_false, Bool.false_eq_true, Bool.true_eq_false, Bool.not_eq_true', Bool.not_eq_false', eq_self, false_imp_iff, true_imp_iff, and_true, true_and, and_false, false_and, or_true, true_or, initFr, fr0_at, Qend, resL, resV1, pack,
    decide_eq_true_eq, decide_eq_false_iff_not, Int.toNat_natCast, Option.some.injEq, exists_eq_left', vc_cond2, vcC2_bool, vcCB_T, vcCB_F, vcCB_dec, decide_true, decide_false]
    exact hx
  refine (c40 b).use ?_
  by_cases h0 : (readS b).2 = 0
  rotate_left
  · have h0' : ¬ (((readS b).2 : Nat) : Int) = 0 := by omega
    simp -implicitDefEqProofs only [encE_length, encE_take5, splice_encE, h0', ne_eq, not_false_eq_true, vc_region, vc_quiet, vcD_nil, vcD_val2, vcDO_val, vcDO_asks, vcD_eff, vcD_guard2, vcDG_TT, vcDG_FF, vcDG_TF, vcDG_FT, vcDG_und, vcDG_Tdec, vcDG_Fdec, vcDEff, saysAll, pendAll, pendNext, addPend, Says, vc_bad, vc_seq, vc_ret, vc_skip, vc_block, vc_exit, vcGrps_nil, vcGrps_cons, vcGrps_guard2, vcG2_bool, vcG2_und, vcGB_TT, vcGB_FF, vcGB_TF, vcGB_FT, vcGB_Tdec, vcGB_Fdec, vcOps_nil, vcOps_cons, vcOut, KCall_ret, KCall_pan, skipF_nil, skipF_cons, Qseq_normal, Qseq_ret, Qseq_exit, Qseq_pan, Qblk_normal, Qblk_exit, Qblk_ret, Qblk_pan, Qpan_eq, Qcut_normal, Qcut_exit, Qcut_ret, Qcut_pan, Qloop_normal, Qloop_exit, Qloop_ret, Qloop_pan,
    stepOp, ev, upd_apply, putF, cellsOf, deref, faddrV, mk, abin, abinI, abinS, ibits, aeqb, aun, fldV, idxOf, elems, isPtr, putRef, splice, fillA, rowsA, minV, peqV, elemsA, rowBytes, strOf, Store.get_push, Store.get_set, Store.n_push, Store.n_set,
    Option.map_some, Option.map_none, reduceIte, Nat.reduceEqDiff, Nat.reduceAdd, Nat.reduceLeDiff, Nat.reduceLT, Nat.zero_add, Nat.add_zero, Nat.add_assoc, Nat.add_left_cancel_iff, Nat.left_eq_add, Nat.add_eq_left, Nat.lt_irrefl, Nat.le_refl,
    List.drop_zero, List.drop_succ_cons, List.take_succ_cons, List.take_zero, List.headD_cons, List.length_cons, List.length_nil, List.getElem?_cons_zero, List.getElem?_cons_succ, List.set_cons_zero, List.set_cons_succ, List.map_cons, List.map_nil,
    Bool.not_true, Bool.not_false, Bool.false_eq_true, Bool.true_eq_false, Bool.not_eq_true', Bool.not_eq_false', eq_self, false_imp_iff, true_imp_iff, and_true, true_and, and_false, false_and, or_true, true_or, initFr, fr0_at, Qend, resL, resV1, pack,
    decide_eq_true_eq, decide_eq_false_iff_not, Int.toNat_natCast, Option.some.injEq, exists_eq_left', vc_cond2, vcC2_bool, vcCB_T, vcCB_F, vcCB_dec, decide_true, decide_false]
    refine c13.use ?_
    simp -implicitDefEqProofs only [vc_region, vc_quiet, vcD_nil, vcD_val2, vcDO_val, vcDO_asks, vcD_eff, vcD_guard2, vcDG_TT, vcDG_FF, vcDG_TF, vcDG_FT, vcDG_und, vcDG_Tdec, vcDG_Fdec, vcDEff, saysAll, pendAll, pendNext, addPend, Says, vc_bad, vc_seq, vc_ret, vc_skip, vc_block, vc_exit, vcGrps_nil, vcGrps_cons, vcGrps_guard2, vcG2_bool, vcG2_und, vcGB_TT, vcGB_FF, vcGB_TF, vcGB_FT, vcGB_Tdec, vcGB_Fdec, vcOps_nil, vcOps_cons, vcOut, KCall_ret, KCall_pan, skipF_nil, skipF_cons, Qseq_normal, Qseq_ret, Qseq_exit, Qseq_pan, Qblk_normal, Qblk_exit, Qblk_ret, Qblk_pan, Qpan_eq, Qcut_normal, Qcut_exit, Qcut_ret, Qcut_pan, Qloop_normal, Qloop_exit, Qloop_ret, Qloop_pan,
    stepOp, ev, upd_apply, putF, cellsOf, deref, faddrV, mk, abin, abinI, abinS, ibits, aeqb, aun, fldV, idxOf, elems, isPtr, putRef, splice, fillA, rowsA, minV, peqV, elemsA, rowBytes, strOf, Store.get_push, Store.get_set, Store.n_push, Store.n_set,
    Option.map_some, Option.map_none, reduceIte, Nat.reduceEqDiff, Nat.reduceAdd, Nat.reduceLeDiff, Nat.reduceLT, Nat.zero_add, Nat.add_zero, Nat.add_assoc, Nat.add_left_cancel_iff, Nat.left_eq_add, Nat.add_eq_left, Nat.lt_irrefl, Nat.le_refl,
    List.drop_zero, List.drop_succ_cons, List.take_succ_cons, List.take_zero, List.headD_cons, List.length_cons, List.length_nil, List.getElem?_cons_zero, List.getElem?_cons_succ, List.set_cons_zero, List.set_cons_succ, List.map_cons, List.map_nil,
    Bool.not_true, Bool.not_false, Bool.false_eq_true, Bool.true_eq_false, Bool.not_eq_true', Bool.not_eq_false', eq_self, false_imp_iff, true_imp_iff, and_true, true_and, and_false, false_and, or_true, true_or, initFr, fr0_at, Qend, resL, resV1, pack,
    decide_eq_true_eq, decide_eq_false_iff_not, Int.toNat_natCast, Option.some.injEq, exists_eq_left', vc_cond2, vcC2_bool, vcCB_T, vcCB_F, vcCB_dec, decide_true, decide_false]
    exact (hx.push _).set _ _ (by omega)
  have h0' : (((readS b).2 : Nat) : Int) = 0 := by omega
  obtain ⟨w1, w2, w3⟩ := readS_ok h0
  simp -implicitDefEqProofs only [encE_length, encE_take5, splice_encE, h0', ne_eq, not_true, vc_region, vc_quiet, vcD_nil, vcD_val2, vcDO_val, vcDO_asks, vcD_eff, vcD_guard2, vcDG_TT, vcDG_FF, vcDG_TF, vcDG_FT, vcDG_und, vcDG_Tdec, vcDG_Fdec, vcDEff, saysAll, pendAll, pendNext, addPend, Says, vc_bad, vc_seq, vc_ret, vc_skip, vc_block, vc_exit, vcGrps_nil, vcGrps_cons, vcGrps_guard2, vcG2_bool, vcG2_und, vcGB_TT, vcGB_FF, vcGB_TF, vcGB_FT, vcGB_Tdec, vcGB_Fdec, vcOps_nil, vcOps_cons, vcOut, KCall_ret, KCall_pan, skipF_nil, skipF_cons, Qseq_normal, Qseq_ret, Qseq_exit, Qseq_pan, Qblk_normal, Qblk_exit, Qblk_ret, Qblk_pan, Qpan_eq, Qcut_normal, Qcut_exit, Qcut_ret, Qcut_pan, Qloop_normal, Qloop_exit, Qloop_ret, Qloop_pan,
    stepOp, ev, upd_apply, putF, cellsOf, deref, faddrV, mk, abin, abinI, abinS, ibits, aeqb, aun, fldV, idxOf, elems, isPtr, putRef, splice, fillA, rowsA, minV, peqV, elemsA, rowBytes, strOf, Store.get_push, Store.get_set, Store.n_push, Store.n_set,
    Option.map_some, Option.map_none, reduceIte, Nat.reduceEqDiff, Nat.reduceAdd, Nat.reduceLeDiff, Nat.reduceLT, Nat.zero_add, Nat.add_zero, Nat.add_assoc, Nat.add_left_cancel_iff, Nat.left_eq_add, Nat.add_eq_left, Nat.lt_irrefl, Nat.le_refl,
    List.drop_zero, List.drop_succ_cons, List.take_succ_cons, List.take_zero, List.headD_cons, List.length_cons, List.length_nil, List.getElem?_cons_zero, List.getElem?_cons_succ, List.set_cons_zero, List.set_cons_succ, List.map_cons, List.map_nil,
    Bool.not_true, Bool.not_false, Bool.false_eq_true, Bool.true_eq_false, Bool.not_eq_true', Bool.not_eq_false', eq_self, false_imp_iff, true_imp_iff, and_true, true_and, and_false, false_and, or_true, true_or, initFr, fr0_at, Qend, resL, resV1, pack,
    decide_eq_true_eq, decide_eq_false_iff_not, Int.toNat_natCast, Option.some.injEq, exists_eq_left', vc_cond2, vcC2_bool, vcCB_T, vcCB_F, vcCB_dec, decide_true, decide_false]
  refine (c15 _ w2).use ?_
  rw [w1]
  simp -implicitDefEqProofs only [encE_length, encE_take5, splice_encE, vc_region, vc_quiet, vcD_nil, vcD_val2, vcDO_val, vcDO_asks, vcD_eff, vcD_guard2, vcDG_TT, vcDG_FF, vcDG_TF, vcDG_FT, vcDG_und, vcDG_Tdec, vcDG_Fdec, vcDEff, saysAll, pendAll, pendNext, addPend, Says, vc_bad, vc_seq, vc_ret, vc_skip, vc_block, vc_exit, vcGrps_nil, vcGrps_cons, vcGrps_guard2, vcG2_bool, vcG2_und, vcGB_TT, vcGB_FF, vcGB_TF, vcGB_FT, vcGB_Tdec, vcGB_Fdec, vcOps_nil, vcOps_cons, vcOut, KCall_ret, KCall_pan, skipF_nil, skipF_cons, Qseq_normal, Qseq_ret, Qseq_exit, Qseq_pan, Qblk_normal, Qblk_exit, Qblk_ret, Qblk_pan, Qpan_eq, Qcut_normal, Qcut_exit, Qcut_ret, Qcut_pan, Qloop_normal, Qloop_exit, Qloop_ret, Qloop_pan,
    stepOp, ev, upd_apply, putF, cellsOf, deref, faddrV, mk, abin, abinI, abinS, ibits, aeqb, aun, fldV, idxOf, elems, isPtr, putRef, splice, fillA, rowsA, minV, peqV, elemsA, rowBytes, strOf, Store.get_push, Store.get_set, Store.n_push, Store.n_set,
    Option.map_some, Option.map_none, reduceIte, Nat.reduceEqDiff, Nat.reduceAdd, Nat.reduceLeDiff, Nat.reduceLT, Nat.zero_add, Nat.add_zero, Nat.add_assoc, Nat.add_left_cancel_iff, Nat.left_eq_add, Nat.add_eq_left, Nat.lt_irrefl, Nat.le_refl,
    List.drop_zero, List.drop_succ_cons, List.take_succ_cons, List.take_zero, List.headD_cons, List.length_cons, List.length_nil, List.getElem?_cons_zero, List.getElem?_cons_succ, List.set_cons_zero, List.set_cons_succ, List.map_cons, List.map_nil,
    Bool.not_true, Bool.not_false, Bool.false_eq_true, Bool.true_eq_false, Bool.not_eq_true', Bool.not_eq_false', eq_self, false_imp_iff, true_imp_iff, and_true, true_and, and_false, false_and, or_true, true_or, initFr, fr0_at, Qend, resL, resV1, pack,
    decide_eq_true_eq, decide_eq_false_iff_not, Int.toNat_natCast, Option.some.injEq, exists_eq_left', vc_cond2, vcC2_bool, vcCB_T, vcCB_F, vcCB_dec, decide_true, decide_false]
  refine (c40 _).use ?_
  rw [readS_put (by rw [w1])]
  simp -implicitDefEqProofs only [encE_length, encE_take5, splice_encE, vc_region, vc_quiet, vcD_nil, vcD_val2, vcDO_val, vcDO_asks, vcD_eff, vcD_guard2, vcDG_TT, vcDG_FF, vcDG_TF, vcDG_FT, vcDG_und, vcDG_Tdec, vcDG_Fdec, vcDEff, saysAll, pendAll, pendNext, addPend, Says, vc_bad, vc_seq, vc_ret, vc_skip, vc_block, vc_exit, vcGrps_nil, vcGrps_cons, vcGrps_guard2, vcG2_bool, vcG2_und, vcGB_TT, vcGB_FF, vcGB_TF, vcGB_FT, vcGB_Tdec, vcGB_Fdec, vcOps_nil, vcOps_cons, vcOut, KCall_ret, KCall_pan, skipF_nil, skipF_cons, Qseq_normal, Qseq_ret, Qseq_exit, Qseq_pan, Qblk_normal, Qblk_exit, Qblk_ret, Qblk_pan, Qpan_eq, Qcut_normal, Qcut_exit, Qcut_ret, Qcut_pan, Qloop_normal, Qloop_exit, Qloop_ret, Qloop_pan,
    stepOp, ev, upd_apply, putF, cellsOf, deref, faddrV, mk, abin, abinI, abinS, ibits, aeqb, aun, fldV, idxOf, elems, isPtr, putRef, splice, fillA, rowsA, minV, peqV, elemsA, rowBytes, strOf, Store.get_push, Store.get_set, Store.n_push, Store.n_set,
    Option.map_some, Option.map_none, reduceIte, Nat.reduceEqDiff, Nat.reduceAdd, Nat.reduceLeDiff, Nat.reduceLT, Nat.zero_add, Nat.add_zero, Nat.add_assoc, Nat.add_left_cancel_iff, Nat.left_eq_add, Nat.add_eq_left, Nat.lt_irrefl, Nat.le_refl,
    List.drop_zero, List.drop_succ_cons, List.take_succ_cons, List.take_zero, List.headD_cons, List.length_cons, List.length_nil, List.getElem?_cons_zero, List.getElem?_cons_succ, List.set_cons_zero, List.set_cons_succ, List.map_cons, List.map_nil,
    Bool.not_true, Bool.not_false, Bool.false_eq_true, Bool.true_eq_false, Bool.not_eq_true', Bool.not_eq_false', eq_self, false_imp_iff, true_imp_iff, and_true, true_and, and_false, false_and, or_true, true_or, initFr, fr0_at, Qend, resL, resV1, pack,
    decide_eq_true_eq, decide_eq_false_iff_not, Int.toNat_natCast, Option.some.injEq, exists_eq_left', vc_cond2, vcC2_bool, vcCB_T, vcCB_F, vcCB_dec, decide_true, decide_false]
  refine (c15 _ (ok_copy _ w2)).use ?_
  rw [write_copy, w1]
  simp -implicitDefEqProofs only [encE_length, encE_take5, splice_encE, vc_region, vc_quiet, vcD_nil, vcD_val2, vcDO_val, vcDO_asks, vcD_eff, vcD_guard2, vcDG_TT, vcDG_FF, vcDG_TF, vcDG_FT, vcDG_und, vcDG_Tdec, vcDG_Fdec, vcDEff, saysAll, pendAll, pendNext, addPend, Says, vc_bad, vc_seq, vc_ret, vc_skip, vc_block, vc_exit, vcGrps_nil, vcGrps_cons, vcGrps_guard2, vcG2_bool, vcG2_und, vcGB_TT, vcGB_FF, vcGB_TF, vcGB_FT, vcGB_Tdec, vcGB_Fdec, vcOps_nil, vcOps_cons, vcOut, KCall_ret, KCall_pan, skipF_nil, skipF_cons, Qseq_normal, Qseq_ret, Qseq_exit, Qseq_pan, Qblk_normal, Qblk_exit, Qblk_ret, Qblk_pan, Qpan_eq, Qcut_normal, Qcut_exit, Qcut_ret, Qcut_pan, Qloop_normal, Qloop_exit, Qloop_ret, Qloop_pan,
    stepOp, ev, upd_apply, putF, cellsOf, deref, faddrV, mk, abin, abinI, abinS, ibits, aeqb, aun, fldV, idxOf, elems, isPtr, putRef, splice, fillA, rowsA, minV, peqV, elemsA, rowBytes, strOf, Store.get_push, Store.get_set, Store.n_push, Store.n_set,
    Option.map_some, Option.map_none, reduceIte, Nat.reduceEqDiff, Nat.reduceAdd, Nat.reduceLeDiff, Nat.reduceLT, Nat.zero_add, Nat.add_zero, Nat.add_assoc, Nat.add_left_cancel_iff, Nat.left_eq_add, Nat.add_eq_left, Nat.lt_irrefl, Nat.le_refl,
    List.drop_zero, List.drop_succ_cons, List.take_succ_cons, List.take_zero, List.headD_cons, List.length_cons, List.length_nil, List.getElem?_cons_zero, List.getElem?_cons_succ, List.set_cons_zero, List.set_cons_succ, List.map_cons, List.map_nil,
    Bool.not_true, Bool.not_false, Bool.false_eq_true, Bool.true_eq_false, Bool.not_eq_true', Bool.not_eq_false', eq_self, false_imp_iff, true_imp_iff, and_true, true_and, and_false, false_and, or_true, true_or, initFr, fr0_at, Qend, resL, resV1, pack,
    decide_eq_true_eq, decide_eq_false_iff_not, Int.toNat_natCast, Option.some.injEq, exists_eq_left', vc_cond2, vcC2_bool, vcCB_T, vcCB_F, vcCB_dec, decide_true, decide_false]
  refine c13.use ?_
  have hc0 : ((0 : Nat) : Int) = 0 := rfl
  have hle : ((putS (readS b).1).length : Int) ≤ b.length := by omega
  simp -implicitDefEqProofs only [encE_length, encE_take5, splice_encE, hc0, hle, vc_region, vc_quiet, vcD_nil, vcD_val2, vcDO_val, vcDO_asks, vcD_eff, vcD_guard2, vcDG_TT, vcDG_FF, vcDG_TF, vcDG_FT, vcDG_und, vcDG_Tdec, vcDG_Fdec, vcDEff, saysAll, pendAll, pendNext, addPend, Says, vc_bad, vc_seq, vc_ret, vc_skip, vc_block, vc_exit, vcGrps_nil, vcGrps_cons, vcGrps_guard2, vcG2_bool, vcG2_und, vcGB_TT, vcGB_FF, vcGB_TF, vcGB_FT, vcGB_Tdec, vcGB_Fdec, vcOps_nil, vcOps_cons, vcOut, KCall_ret, KCall_pan, skipF_nil, skipF_cons, Qseq_normal, Qseq_ret, Qseq_exit, Qseq_pan, Qblk_normal, Qblk_exit, Qblk_ret, Qblk_pan, Qpan_eq, Qcut_normal, Qcut_exit, Qcut_ret, Qcut_pan, Qloop_normal, Qloop_exit, Qloop_ret, Qloop_pan,
    stepOp, ev, upd_apply, putF, cellsOf, deref, faddrV, mk, abin, abinI, abinS, ibits, aeqb, aun, fldV, idxOf, elems, isPtr, putRef, splice, fillA, rowsA, minV, peqV, elemsA, rowBytes, strOf, Store.get_push, Store.get_set, Store.n_push, Store.n_set,
    Option.map_some, Option.map_none, reduceIte, Nat.reduceEqDiff, Nat.reduceAdd, Nat.reduceLeDiff, Nat.reduceLT, Nat.zero_add, Nat.add_zero, Nat.add_assoc, Nat.add_left_cancel_iff, Nat.left_eq_add, Nat.add_eq_left, Nat.lt_irrefl, Nat.le_refl,
    List.drop_zero, List.drop_succ_cons, List.take_succ_cons, List.take_zero, List.headD_cons, List.length_cons, List.length_nil, List.getElem?_cons_zero, List.getElem?_cons_succ, List.set_cons_zero, List.set_cons_succ, List.map_cons, List.map_nil,
    Bool.not_true, Bool.not_false, Bool.false_eq_true, Bool.true_eq_false, Bool.not_eq_true', Bool.not_eq_false', eq_self, false_imp_iff, true_imp_iff, and_true, true_and, and_false, false_and, or_true, true_or, initFr, fr0_at, Qend, resL, resV1, pack,
    decide_eq_true_eq, decide_eq_false_iff_not, Int.toNat_natCast, Option.some.injEq, exists_eq_left', vc_cond2, vcC2_bool, vcCB_T, vcCB_F, vcCB_dec, decide_true, decide_false]
  intro _ _
  refine (c17 _ _).use ?_
  rw [same_of _ _ (copy_copy _).symm]
  simp -implicitDefEqProofs only [encE_length, encE_take5, splice_encE, vc_region, vc_quiet, vcD_nil, vcD_val2, vcDO_val, vcDO_asks, vcD_eff, vcD_guard2, vcDG_TT, vcDG_FF, vcDG_TF, vcDG_FT, vcDG_und, vcDG_Tdec, vcDG_Fdec, vcDEff, saysAll, pendAll, pendNext, addPend, Says, vc_bad, vc_seq, vc_ret, vc_skip, vc_block, vc_exit, vcGrps_nil, vcGrps_cons, vcGrps_guard2, vcG2_bool, vcG2_und, vcGB_TT, vcGB_FF, vcGB_TF, vcGB_FT, vcGB_Tdec, vcGB_Fdec, vcOps_nil, vcOps_cons, vcOut, KCall_ret, KCall_pan, skipF_nil, skipF_cons, Qseq_normal, Qseq_ret, Qseq_exit, Qseq_pan, Qblk_normal, Qblk_exit, Qblk_ret, Qblk_pan, Qpan_eq, Qcut_normal, Qcut_exit, Qcut_ret, Qcut_pan, Qloop_normal, Qloop_exit, Qloop_ret, Qloop_pan,
    stepOp, ev, upd_apply, putF, cellsOf, deref, faddrV, mk, abin, abinI, abinS, ibits, aeqb, aun, fldV, idxOf, elems, isPtr, putRef, splice, fillA, rowsA, minV, peqV, elemsA, rowBytes, strOf, Store.get_push, Store.get_set, Store.n_push, Store.n_set,
    Option.map_some, Option.map_none, reduceIte, Nat.reduceEqDiff, Nat.reduceAdd, Nat.reduceLeDiff, Nat.reduceLT, Nat.zero_add, Nat.add_zero, Nat.add_assoc, Nat.add_left_cancel_iff, Nat.left_eq_add, Nat.add_eq_left, Nat.lt_irrefl, Nat.le_refl,
    List.drop_zero, List.drop_succ_cons, List.take_succ_cons, List.take_zero, List.headD_cons, List.length_cons, List.length_nil, List.getElem?_cons_zero, List.getElem?_cons_succ, List.set_cons_zero, List.set_cons_succ, List.map_cons, List.map_nil,
    Bool.not_true, Bool.not_false, Bool.false_eq_true, Bool.true_eq_false, Bool.not_eq_true', Bool.not_eq_false', eq_self, false_imp_iff, true_imp_iff, and_true, true_and, and_false, false_and, or_true, true_or, initFr, fr0_at, Qend, resL, resV1, pack,
    decide_eq_true_eq, decide_eq_false_iff_not, Int.toNat_natCast, Option.some.injEq, exists_eq_left', vc_cond2, vcC2_bool, vcCB_T, vcCB_F, vcCB_dec, decide_true, decide_false]
  exact (((hx.push _).set _ _ (by omega)).push _).set _ _ (by omega)
end Go.Proofs.Ytmlllckecalaaaa.Eng

namespace Go.Proofs.Ytmlllckecalaaaa.Eng
open Go Go.Proofs.Try

def nestE : Nat → Elem
  | 0 => strE 4 [120]
  | i + 1 => seqE (copyEs [nestE i])
def byt : Nat → List UInt8
  | 0 => [4, 1, 120]
  | i + 1 => 48 :: UInt8.ofNat (byt i).length :: byt i
theorem byt_len : ∀ m, (byt m).length = 3 + 2 * m
  | 0 => rfl
  | m + 1 => by simp only [byt, List.length_cons, byt_len m]; omega
theorem ok_str2 (t : Int) (s : List UInt8) (ht : i64ok t) (hs : s.length ≤ maxB) : okE (strE t s) := by
  simp only [strE, okE, okEs, List.length_nil]
  exact ⟨⟨by omega, by omega⟩, ht, hs, by unfold maxB; omega, trivial⟩
theorem nest_ok : ∀ m, okE (nestE m)
  | 0 => ok_str2 4 [120] ⟨by omega, by omega⟩ (by unfold maxB; simp)
  | m + 1 => by
    have h := ok_copy _ (nest_ok m)
    simp only [nestE, seqE, copyEs, okE, okEs, List.length_cons, List.length_nil]
    exact ⟨⟨by omega, by omega⟩, ⟨by omega, by omega⟩, by unfold maxB; omega, by unfold maxB; omega, h, trivial⟩
def okD (m : Nat) : Bool := if m ≥ 20 then decide ((writeS (nestE m)).1 = [] ∧ (writeS (nestE m)).2 = 23 ∧ (readS (byt m)).2 = 23)
  else decide ((writeS (nestE m)).1 = byt m ∧ (writeS (nestE m)).2 = 0 ∧ (readS (byt m)).2 = 0) && sameS (readS (byt m)).1 (nestE m)
theorem okD_all : (List.range 59).all okD = true := by decide +kernel
theorem okD_at (m : Nat) (h : m < 59) : okD m = true := List.all_eq_true.1 okD_all m (List.mem_range.2 h)

theorem c11 (n : Int) (hn : i64ok n) : Pure prog 11 [.int .i64 n] (.bool true) := by
  refine Pure.of (fun _ _ => by simp only [nm]) fun S => acalls_of_vc low11 (by simp) ?_
  have hx := Ext.refl S
  by_cases h1 : n < 1
  · simp -implicitDefEqProofs only [B11, h1, vc_region, vc_quiet, vcD_nil, vcD_val2, vcDO_val, vcDO_asks, vcD_eff, vcD_guard2, vcDG_TT, vcDG_FF, vcDG_TF, vcDG_FT, vcDG_und, vcDG_Tdec, vcDG_Fdec, vcDEff, saysAll, pendAll, pendNext, addPend, Says, vc_bad, vc_seq, vc_ret, vc_skip, vc_block, vc_exit, vcGrps_nil, vcGrps_cons, vcGrps_guard2, vcG2_bool, vcG2_und, vcGB_TT, vcGB_FF, vcGB_TF, vcGB_FT, vcGB_Tdec, vcGB_Fdec, vcOps_nil, vcOps_cons, vcOut, KCall_ret, KCall_pan, skipF_nil, skipF_cons, Qseq_normal, Qseq_ret, Qseq_exit, Qseq_pan, Qblk_normal, Qblk_exit, Qblk_ret, Qblk_pan, Qpan_eq, Qcut_normal, Qcut_exit, Qcut_ret, Qcut_pan, Qloop_normal, Qloop_exit, Qloop_ret, Qloop_pan,
    stepOp, ev, upd_apply, putF, cellsOf, deref, faddrV, mk, abin, abinI, abinS, ibits, aeqb, aun, fldV, idxOf, elems, isPtr, putRef, splice, fillA, rowsA, minV, peqV, elemsA, rowBytes, strOf, Store.get_push, Store.get_set, Store.n_push, Store.n_set,
    Option.map_some, Option.map_none, reduceIte, Nat.reduceEqDiff, Nat.reduceAdd, Nat.reduceLeDiff, Nat.reduceLT, Nat.zero_add, Nat.add_zero, Nat.add_assoc, Nat.add_left_cancel_iff, Nat.left_eq_add, Nat.add_eq_left, Nat.lt_irrefl, Nat.le_refl,
    List.drop_zero, List.drop_succ_cons, List.take_succ_cons, List.take_zero, List.headD_cons, List.length_cons, List.length_nil, List.getElem?_cons_zero, List.getElem?_cons_succ, List.set_cons_zero, List.set_cons_succ, List.map_cons, List.map_nil,
    Bool.not_true, Bool.not_false, Bool.false_eq_true, Bool.true_eq_false, Bool.not_eq_true', Bool.not_eq_false', eq_self, false_imp_iff, true_imp_iff, and_true, true_and, and_false, false_and, or_true, true_or, initFr, fr0_at, Qend, resL, resV1, pack,
    decide_eq_true_eq, decide_eq_false_iff_not, Int.toNat_natCast, Option.some.injEq, exists_eq_left', vc_cond2, vcC2_bool, vcCB_T, vcCB_F, vcCB_dec, decide_true, decide_false]
    refine c13.use ?_
    simp -implicitDefEqProofs only [vc_region, vc_quiet, vcD_nil, vcD_val2, vcDO_val, vcDO_asks, vcD_eff, vcD_guard2, vcDG_TT, vcDG_FF, vcDG_TF, vcDG_FT, vcDG_und, vcDG_Tdec, vcDG_Fdec, vcDEff, saysAll, pendAll, pendNext, addPend, Says, vc_bad, vc_seq, vc_ret, vc_skip, vc_block, vc_exit, vcGrps_nil, vcGrps_cons, vcGrps_guard2, vcG2_bool, vcG2_und, vcGB_TT, vcGB_FF, vcGB_TF, vcGB_FT, vcGB_Tdec, vcGB_Fdec, vcOps_nil, vcOps_cons, vcOut, KCall_ret, KCall_pan, skipF_nil, skipF_cons, Qseq_normal, Qseq_ret, Qseq_exit, Qseq_pan, Qblk_normal, Qblk_exit, Qblk_ret, Qblk_pan, Qpan_eq, Qcut_normal, Qcut_exit, Qcut_ret, Qcut_pan, Qloop_normal, Qloop_exit, Qloop_ret, Qloop_pan,
    stepOp, ev, upd_apply, putF, cellsOf, deref, faddrV, mk, abin, abinI, abinS, ibits, aeqb, aun, fldV, idxOf, elems, isPtr, putRef, splice, fillA, rowsA, minV, peqV, elemsA, rowBytes, strOf, Store.get_push, Store.get_set, Store.n_push, Store.n_set,
    Option.map_some, Option.map_none, reduceIte, Nat.reduceEqDiff, Nat.reduceAdd, Nat.reduceLeDiff, Nat.reduceLT, Nat.zero_add, Nat.add_zero, Nat.add_assoc, Nat.add_left_cancel_iff, Nat.left_eq_add, Nat.add_eq_left, Nat.lt_irrefl, Nat.le_refl,
    List.drop_zero, List.drop_succ_cons, List.take_succ_cons, List.take_zero, List.headD_cons, List.length_cons, List.length_nil, List.getElem?_cons_zero, List.getElem?_cons_succ, List.set_cons_zero, List.set_cons_succ, List.map_cons, List.map_nil,
    Bool.not_true, Bool.not_false, Bool.false_eq_true, Bool.true_eq_false, Bool.not_eq_true', Bool.not_eq_false', eq_self, false_imp_iff, true_imp_iff, and_true, true_and, and_false, false_and, or_true, true_or, initFr, fr0_at, Qend, resL, resV1, pack,
    decide_eq_true_eq, decide_eq_false_iff_not, Int.toNat_natCast, Option.some.injEq, exists_eq_left', vc_cond2, vcC2_bool, vcCB_T, vcCB_F, vcCB_dec, decide_true, decide_false]
    exact hx
  by_cases h60 : n > 60
  · simp -implicitDefEqProofs only [B11, h1, h60, vc_region, vc_quiet, vcD_nil, vcD_val2, vcDO_val, vcDO_asks, vcD_eff, vcD_guard2, vcDG_TT, vcDG_FF, vcDG_TF, vcDG_FT, vcDG_und, vcDG_Tdec, vcDG_Fdec, vcDEff, saysAll, pendAll, pendNext, addPend, Says, vc_bad, vc_seq, vc_ret, vc_skip, vc_block, vc_exit, vcGrps_nil, vcGrps_cons, vcGrps_guard2, vcG2_bool, vcG2_und, vcGB_TT, vcGB_FF, vcGB_TF, vcGB_FT, vcGB_Tdec, vcGB_Fdec, vcOps_nil, vcOps_cons, vcOut, KCall_ret, KCall_pan, skipF_nil, skipF_cons, Qseq_normal, Qseq_ret, Qseq_exit, Qseq_pan, Qblk_normal, Qblk_exit, Qblk_ret, Qblk_pan, Qpan_eq, Qcut_normal, Qcut_exit, Qcut_ret, Qcut_pan, Qloop_normal, Qloop_exit, Qloop_ret, Qloop_pan,
    stepOp, ev, upd_apply, putF, cellsOf, deref, faddrV, mk, abin, abinI, abinS, ibits, aeqb, aun, fldV, idxOf, elems, isPtr, putRef, splice, fillA, rowsA, minV, peqV, elemsA, rowBytes, strOf, Store.get_push, Store.get_set, Store.n_push, Store.n_set,
    Option.map_some, Option.map_none, reduceIte, Nat.reduceEqDiff, Nat.reduceAdd, Nat.reduceLeDiff, Nat.reduceLT, Nat.zero_add, Nat.add_zero, Nat.add_assoc, Nat.add_left_cancel_iff, Nat.left_eq_add, Nat.add_eq_left, Nat.lt_irrefl, Nat.le_refl,
    List.drop_zero, List.drop_succ_cons, List.take_succ_cons, List.take_zero, List.headD_cons, List.length_cons, List.length_nil, List.getElem?_cons_zero, List.getElem?_cons_succ, List.set_cons_zero, List.set_cons_succ, List.map_cons, List.map_nil,
    Bool.not_true, Bool.not_false, Bool.false_eq_true, Bool.true_eq_false, Bool.not_eq_true', Bool.not_eq_false', eq_self, false_imp_iff, true_imp_iff, and_true, true_and, and_false, false_and, or_true, true_or, initFr, fr0_at, Qend, resL, resV1, pack,
    decide_eq_true_eq, decide_eq_false_iff_not, Int.toNat_natCast, Option.some.injEq, exists_eq_left', vc_cond2, vcC2_bool, vcCB_T, vcCB_F, vcCB_dec, decide_true, decide_false]
    refine c13.use ?_
    simp -implicitDefEqProofs only [vc_region, vc_quiet, vcD_nil, vcD_val2, vcDO_val, vcDO_asks, vcD_eff, vcD_guard2, vcDG_TT, vcDG_FF, vcDG_TF, vcDG_FT, vcDG_und, vcDG_Tdec, vcDG_Fdec, vcDEff, saysAll, pendAll, pendNext, addPend, Says, vc_bad, vc_seq, vc_ret, vc_skip, vc_block, vc_exit, vcGrps_nil, vcGrps_cons, vcGrps_guard2, vcG2_bool, vcG2_und, vcGB_TT, vcGB_FF, vcGB_TF, vcGB_FT, vcGB_Tdec, vcGB_Fdec, vcOps_nil, vcOps_cons, vcOut, KCall_ret, KCall_pan, skipF_nil, skipF_cons, Qseq_normal, Qseq_ret, Qseq_exit, Qseq_pan, Qblk_normal, Qblk_exit, Qblk_ret, Qblk_pan, Qpan_eq, Qcut_normal, Qcut_exit, Qcut_ret, Qcut_pan, Qloop_normal, Qloop_exit, Qloop_ret, Qloop_pan,
    stepOp, ev, upd_apply, putF, cellsOf, deref, faddrV, mk, abin, abinI, abinS, ibits, aeqb, aun, fldV, idxOf, elems, isPtr, putRef, splice, fillA, rowsA, minV, peqV, elemsA, rowBytes, strOf, Store.get_push, Store.get_set, Store.n_push, Store.n_set,
    Option.map_some, Option.map_none, reduceIte, Nat.reduceEqDiff, Nat.reduceAdd, Nat.reduceLeDiff, Nat.reduceLT, Nat.zero_add, Nat.add_zero, Nat.add_assoc, Nat.add_left_cancel_iff, Nat.left_eq_add, Nat.add_eq_left, Nat.lt_irrefl, Nat.le_refl,
    List.drop_zero, List.drop_succ_cons, List.take_succ_cons, List.take_zero, List.headD_cons, List.length_cons, List.length_nil, List.getElem?_cons_zero, List.getElem?_cons_succ, List.set_cons_zero, List.set_cons_succ, List.map_cons, List.map_nil,
    Bool.not_true, Bool.not_false, Bool.false_eq_true, Bool.true_eq_false, Bool.not_eq_true', Bool.not_eq_false', eq_self, false_imp_iff, true_imp_iff, and_true, true_and, and_false, false_and, or_true, true_or, initFr, fr0_at, Qend, resL, resV1, pack,
    decide_eq_true_eq, decide_eq_false_iff_not, Int.toNat_natCast, Option.some.injEq, exists_eq_left', vc_cond2, vcC2_bool, vcCB_T, vcCB_F, vcCB_dec, decide_true, decide_false]
    exact hx
  obtain ⟨m, rfl⟩ : ∃ m : Nat, n = ((m + 1 : Nat) : Int) := ⟨(n - 1).toNat, by omega⟩
  have hm : m < 60 := by omega
  simp -implicitDefEqProofs only [B11, h1, h60, vc_region, vc_quiet, vcD_nil, vcD_val2, vcDO_val, vcDO_asks, vcD_eff, vcD_guard2, vcDG_TT, vcDG_FF, vcDG_TF, vcDG_FT, vcDG_und, vcDG_Tdec, vcDG_Fdec, vcDEff, saysAll, pendAll, pendNext, addPend, Says, vc_bad, vc_seq, vc_ret, vc_skip, vc_block, vc_exit, vcGrps_nil, vcGrps_cons, vcGrps_guard2, vcG2_bool, vcG2_und, vcGB_TT, vcGB_FF, vcGB_TF, vcGB_FT, vcGB_Tdec, vcGB_Fdec, vcOps_nil, vcOps_cons, vcOut, KCall_ret, KCall_pan, skipF_nil, skipF_cons, Qseq_normal, Qseq_ret, Qseq_exit, Qseq_pan, Qblk_normal, Qblk_exit, Qblk_ret, Qblk_pan, Qpan_eq, Qcut_normal, Qcut_exit, Qcut_ret, Qcut_pan, Qloop_normal, Qloop_exit, Qloop_ret, Qloop_pan,
    stepOp, ev, upd_apply, putF, cellsOf, deref, faddrV, mk, abin, abinI, abinS, ibits, aeqb, aun, fldV, idxOf, elems, isPtr, putRef, splice, fillA, rowsA, minV, peqV, elemsA, rowBytes, strOf, Store.get_push, Store.get_set, Store.n_push, Store.n_set,
    Option.map_some, Option.map_none, reduceIte, Nat.reduceEqDiff, Nat.reduceAdd, Nat.reduceLeDiff, Nat.reduceLT, Nat.zero_add, Nat.add_zero, Nat.add_assoc, Nat.add_left_cancel_iff, Nat.left_eq_add, Nat.add_eq_left, Nat.lt_irrefl, Nat.le_refl,
    List.drop_zero, List.drop_succ_cons, List.take_succ_cons, List.take_zero, List.headD_cons, List.length_cons, List.length_nil, List.getElem?_cons_zero, List.getElem?_cons_succ, List.set_cons_zero, List.set_cons_succ, List.map_cons, List.map_nil,
    Bool.not_true, Bool.not_false, Bool.false_eq_true, Bool.true_eq_false, Bool.not_eq_true', Bool.not_eq_false', eq_self, false_imp_iff, true_imp_iff, and_true, true_and, and_false, false_and, or_true, true_or, initFr, fr0_at, Qend, resL, resV1, pack,
    decide_eq_true_eq, decide_eq_false_iff_not, Int.toNat_natCast, Option.some.injEq, exists_eq_left', vc_cond2, vcC2_bool, vcCB_T, vcCB_F, vcCB_dec, decide_true, decide_false]
  refine (c21 4 [120]).use ?_
  simp -implicitDefEqProofs only [encE_length, splice_encE, vc_region, vc_quiet, vcD_nil, vcD_val2, vcDO_val, vcDO_asks, vcD_eff, vcD_guard2, vcDG_TT, vcDG_FF, vcDG_TF, vcDG_FT, vcDG_und, vcDG_Tdec, vcDG_Fdec, vcDEff, saysAll, pendAll, pendNext, addPend, Says, vc_bad, vc_seq, vc_ret, vc_skip, vc_block, vc_exit, vcGrps_nil, vcGrps_cons, vcGrps_guard2, vcG2_bool, vcG2_und, vcGB_TT, vcGB_FF, vcGB_TF, vcGB_FT, vcGB_Tdec, vcGB_Fdec, vcOps_nil, vcOps_cons, vcOut, KCall_ret, KCall_pan, skipF_nil, skipF_cons, Qseq_normal, Qseq_ret, Qseq_exit, Qseq_pan, Qblk_normal, Qblk_exit, Qblk_ret, Qblk_pan, Qpan_eq, Qcut_normal, Qcut_exit, Qcut_ret, Qcut_pan, Qloop_normal, Qloop_exit, Qloop_ret, Qloop_pan,
    stepOp, ev, upd_apply, putF, cellsOf, deref, faddrV, mk, abin, abinI, abinS, ibits, aeqb, aun, fldV, idxOf, elems, isPtr, putRef, splice, fillA, rowsA, minV, peqV, elemsA, rowBytes, strOf, Store.get_push, Store.get_set, Store.n_push, Store.n_set,
    Option.map_some, Option.map_none, reduceIte, Nat.reduceEqDiff, Nat.reduceAdd, Nat.reduceLeDiff, Nat.reduceLT, Nat.zero_add, Nat.add_zero, Nat.add_assoc, Nat.add_left_cancel_iff, Nat.left_eq_add, Nat.add_eq_left, Nat.lt_irrefl, Nat.le_refl,
    List.drop_zero, List.drop_succ_cons, List.take_succ_cons, List.take_zero, List.headD_cons, List.length_cons, List.length_nil, List.getElem?_cons_zero, List.getElem?_cons_succ, List.set_cons_zero, List.set_cons_succ, List.map_cons, List.map_nil,
    Bool.not_true, Bool.not_false, Bool.false_eq_true, Bool.true_eq_false, Bool.not_eq_true', Bool.not_eq_false', eq_self, false_imp_iff, true_imp_iff, and_true, true_and, and_false, false_and, or_true, true_or, initFr, fr0_at, Qend, resL, resV1, pack,
    decide_eq_true_eq, decide_eq_false_iff_not, Int.toNat_natCast, Option.some.injEq, exists_eq_left', vc_cond2, vcC2_bool, vcCB_T, vcCB_F, vcCB_dec, decide_true, decide_false]
  have hx3 := (hx.push (.box 24 [.int .i64 0, .int .i64 0, .bool false, .str [], .lit (.slice none 0 0)])).set S.n (some (.box 24 (encE (strE 4 [120])))) (Nat.le_refl _)
  refine vc_loop (fun g fr T => ∃ j : Nat, j + g = m ∧ fr 0 = .int .i64 ((m + 1 : Nat) : Int) ∧ fr 3 = .ptr S.n 0 ∧ fr 4 = .str (byt j) ∧ fr 5 = .int .i64 ((j + 1 : Nat) : Int) ∧ T.get S.n = some (.box 24 (encE (nestE j))) ∧ Ext S T ∧ S.n < T.n) m
    ⟨0, by omega, by simp [upd_apply], by simp [upd_apply], by simp [upd_apply, byt], by simp [upd_apply], by rw [Store.get_set_same]; rfl, hx3, by simp [Store.n_set, Store.n_push]⟩ ?_
  clear hx3
  rintro g fr T ⟨j, hjg, f0, f3, f4, f5, hg3, hE, hTn⟩
  have hbl := byt_len j
  by_cases hlt : j < m
  · have hlt' : ((j + 1 : Nat) : Int) < ((m + 1 : Nat) : Int) := by omega
    have hi1 : IntKind.i64.wrap (((j + 1 : Nat) : Int) + 1) = ((j + 1 + 1 : Nat) : Int) := by rw [w64 _ (by omega) (by omega)]; omega
    simp -implicitDefEqProofs only [f0, f3, f4, f5, hg3, hlt', encE_length, encE_take5, vc_region, vc_quiet, vcD_nil, vcD_val2, vcDO_val, vcDO_asks, vcD_eff, vcD_guard2, vcDG_TT, vcDG_FF, vcDG_TF, vcDG_FT, vcDG_und, vcDG_Tdec, vcDG_Fdec, vcDEff, saysAll, pendAll, pendNext, addPend, Says, vc_bad, vc_seq, vc_ret, vc_skip, vc_block, vc_exit, vcGrps_nil, vcGrps_cons, vcGrps_guard2, vcG2_bool, vcG2_und, vcGB_TT, vcGB_FF, vcGB_TF, vcGB_FT, vcGB_Tdec, vcGB_Fdec, vcOps_nil, vcOps_cons, vcOut, KCall_ret, KCall_pan, skipF_nil, skipF_cons, Qseq_normal, Qseq_ret, Qseq_exit, Qseq_pan, Qblk_normal, Qblk_exit, Qblk_ret, Qblk_pan, Qpan_eq, Qcut_normal, Qcut_exit, Qcut_ret, Qcut_pan, Qloop_normal, Qloop_exit, Qloop_ret, Qloop_pan,
    stepOp, ev, upd_apply, putF, cellsOf, deref, faddrV, mk, abin, abinI, abinS, ibits, aeqb, aun, fldV, idxOf, elems, isPtr, putRef, splice, fillA, rowsA, minV, peqV, elemsA, rowBytes, strOf, Store.get_push, Store.get_set, Store.n_push, Store.n_set,
    Option.map_some, Option.map_none, reduceIte, Nat.reduceEqDiff, Nat.reduceAdd, Nat.reduceLeDiff, Nat.reduceLT, Nat.zero_add, Nat.add_zero, Nat.add_assoc, Nat.add_left_cancel_iff, Nat.left_eq_add, Nat.add_eq_left, Nat.lt_irrefl, Nat.le_refl,
    List.drop_zero, List.drop_succ_cons, List.take_succ_cons, List.take_zero, List.headD_cons, List.length_cons, List.length_nil, List.getElem?_cons_zero, List.getElem?_cons_succ, List.set_cons_zero, List.set_cons_succ, List.map_cons, List.map_nil,
    Bool.not_true, Bool.not_false, Bool.false_eq_true, Bool.true_eq_false, Bool.not_eq_true', Bool.not_eq_false', eq_self, false_imp_iff, true_imp_iff, and_true, true_and, and_false, false_and, or_true, true_or, initFr, fr0_at, Qend, resL, resV1, pack,
    decide_eq_true_eq, decide_eq_false_iff_not, Int.toNat_natCast, Option.some.injEq, exists_eq_left', vc_cond2, vcC2_bool, vcCB_T, vcCB_F, vcCB_dec, decide_true, decide_false]
    have h23 := c23 [nestE j] [] (by simp only [List.length_cons, List.length_nil]; unfold maxB; omega) (by intro k hk; simp only [List.mem_cons, List.not_mem_nil, or_false] at hk; subst hk; exact nest_ok j)
    simp only [lstV, encEs, List.append_nil, List.length_cons, List.length_nil] at h23
    refine h23.use ?_
    have hsp : splice (encE (nestE j)) 0 (encE (seqE (copyEs [nestE j]))) = encE (seqE (copyEs [nestE j])) := by rw [encE_eta (nestE j)]; exact splice_encE ..
    have hlen2 : strMax ≥ 200 := by decide
    simp -implicitDefEqProofs only [f0, f3, f4, f5, hg3, hlt', hi1, hsp, encE_length, encE_take5, w8, bytesOf, vc_region, vc_quiet, vcD_nil, vcD_val2, vcDO_val, vcDO_asks, vcD_eff, vcD_guard2, vcDG_TT, vcDG_FF, vcDG_TF, vcDG_FT, vcDG_und, vcDG_Tdec, vcDG_Fdec, vcDEff, saysAll, pendAll, pendNext, addPend, Says, vc_bad, vc_seq, vc_ret, vc_skip, vc_block, vc_exit, vcGrps_nil, vcGrps_cons, vcGrps_guard2, vcG2_bool, vcG2_und, vcGB_TT, vcGB_FF, vcGB_TF, vcGB_FT, vcGB_Tdec, vcGB_Fdec, vcOps_nil, vcOps_cons, vcOut, KCall_ret, KCall_pan, skipF_nil, skipF_cons, Qseq_normal, Qseq_ret, Qseq_exit, Qseq_pan, Qblk_normal, Qblk_exit, Qblk_ret, Qblk_pan, Qpan_eq, Qcut_normal, Qcut_exit, Qcut_ret, Qcut_pan, Qloop_normal, Qloop_exit, Qloop_ret, Qloop_pan,
    stepOp, ev, upd_apply, putF, cellsOf, deref, faddrV, mk, abin, abinI, abinS, ibits, aeqb, aun, fldV, idxOf, elems, isPtr, putRef, splice, fillA, rowsA, minV, peqV, elemsA, rowBytes, strOf, Store.get_push, Store.get_set, Store.n_push, Store.n_set,
    Option.map_some, Option.map_none, reduceIte, Nat.reduceEqDiff, Nat.reduceAdd, Nat.reduceLeDiff, Nat.reduceLT, Nat.zero_add, Nat.add_zero, Nat.add_assoc, Nat.add_left_cancel_iff, Nat.left_eq_add, Nat.add_eq_left, Nat.lt_irrefl, Nat.le_refl,
    List.drop_zero, List.drop_succ_cons, List.take_succ_cons, List.take_zero, List.headD_cons, List.length_cons, List.length_nil, List.getElem?_cons_zero, List.getElem?_cons_succ, List.set_cons_zero, List.set_cons_succ, List.map_cons, List.map_nil,
    Bool.not_true, Bool.not_false, Bool.false_eq_true, Bool.true_eq_false, Bool.not_eq_true', Bool.not_eq_false', eq_self, false_imp_iff, true_imp_iff, and_true, true_and, and_false, false_and, or_true, true_or, initFr, fr0_at, Qend, resL, resV1, pack,
    decide_eq_true_eq, decide_eq_false_iff_not, Int.toNat_natCast, Option.some.injEq, exists_eq_left', vc_cond2, vcC2_bool, vcCB_T, vcCB_F, vcCB_dec, decide_true, decide_false]
    intro _
    have hb : [48] ++ [UInt8.ofNat (UInt8.ofNat (byt j).length).toNat] ++ byt j = byt (j + 1) := by
      simp only [byt, List.cons_append, List.nil_append, List.cons.injEq, and_true, true_and]
      exact UInt8.toNat_inj.1 (by simp)
    refine ⟨by unfold strMax; omega, by simp only [List.length_append, List.length_cons, List.length_nil]; unfold strMax; omega, g - 1, by omega, j + 1, by omega, by rw [hb], rfl, rfl, hE.set _ _ (Nat.le_refl _), hTn⟩
  · have hjm : j = m := by omega
    subst hjm
    have hlt' : ¬ ((j + 1 : Nat) : Int) < ((j + 1 : Nat) : Int) := by omega
    by_cases h59 : j = 59
    · have hl120 : ((byt j).length : Int) > 120 := by omega
      simp -implicitDefEqProofs only [f0, f3, f4, f5, hg3, hlt', hl120, encE_length, encE_take5, vc_region, vc_quiet, vcD_nil, vcD_val2, vcDO_val, vcDO_asks, vcD_eff, vcD_guard2, vcDG_TT, vcDG_FF, vcDG_TF, vcDG_FT, vcDG_und, vcDG_Tdec, vcDG_Fdec, vcDEff, saysAll, pendAll, pendNext, addPend, Says, vc_bad, vc_seq, vc_ret, vc_skip, vc_block, vc_exit, vcGrps_nil, vcGrps_cons, vcGrps_guard2, vcG2_bool, vcG2_und, vcGB_TT, vcGB_FF, vcGB_TF, vcGB_FT, vcGB_Tdec, vcGB_Fdec, vcOps_nil, vcOps_cons, vcOut, KCall_ret, KCall_pan, skipF_nil, skipF_cons, Qseq_normal, Qseq_ret, Qseq_exit, Qseq_pan, Qblk_normal, Qblk_exit, Qblk_ret, Qblk_pan, Qpan_eq, Qcut_normal, Qcut_exit, Qcut_ret, Qcut_pan, Qloop_normal, Qloop_exit, Qloop_ret, Qloop_pan,
    stepOp, ev, upd_apply, putF, cellsOf, deref, faddrV, mk, abin, abinI, abinS, ibits, aeqb, aun, fldV, idxOf, elems, isPtr, putRef, splice, fillA, rowsA, minV, peqV, elemsA, rowBytes, strOf, Store.get_push, Store.get_set, Store.n_push, Store.n_set,
    Option.map_some, Option.map_none, reduceIte, Nat.reduceEqDiff, Nat.reduceAdd, Nat.reduceLeDiff, Nat.reduceLT, Nat.zero_add, Nat.add_zero, Nat.add_assoc, Nat.add_left_cancel_iff, Nat.left_eq_add, Nat.add_eq_left, Nat.lt_irrefl, Nat.le_refl,
    List.drop_zero, List.drop_succ_cons, List.take_succ_cons, List.take_zero, List.headD_cons, List.length_cons, List.length_nil, List.getElem?_cons_zero, List.getElem?_cons_succ, List.set_cons_zero, List.set_cons_succ, List.map_cons, List.map_nil,
    Bool.not_true, Bool.not_false, Bool.false_eq_true, Bool.true_eq_false, Bool.not_eq_true', Bool.not_eq_false', eq_self, false_imp_iff, true_imp_iff, and_true, true_and, and_false, false_and, or_true, true_or, initFr, fr0_at, Qend, resL, resV1, pack,
    decide_eq_true_eq, decide_eq_false_iff_not, Int.toNat_natCast, Option.some.injEq, exists_eq_left', vc_cond2, vcC2_bool, vcCB_T, vcCB_F, vcCB_dec, decide_true, decide_false]
      intro _
      refine c13.use ?_
      simp -implicitDefEqProofs only [vc_region, vc_quiet, vcD_nil, vcD_val2, vcDO_val, vcDO_asks, vcD_eff, vcD_guard2, vcDG_TT, vcDG_FF, vcDG_TF, vcDG_FT, vcDG_und, vcDG_Tdec, vcDG_Fdec, vcDEff, saysAll, pendAll, pendNext, addPend, Says, vc_bad, vc_seq, vc_ret, vc_skip, vc_block, vc_exit, vcGrps_nil, vcGrps_cons, vcGrps_guard2, vcG2_bool, vcG2_und, vcGB_TT, vcGB_FF, vcGB_TF, vcGB_FT, vcGB_Tdec, vcGB_Fdec, vcOps_nil, vcOps_cons, vcOut, KCall_ret, KCall_pan, skipF_nil, skipF_cons, Qseq_normal, Qseq_ret, Qseq_exit, Qseq_pan, Qblk_normal, Qblk_exit, Qblk_ret, Qblk_pan, Qpan_eq, Qcut_normal, Qcut_exit, Qcut_ret, Qcut_pan, Qloop_normal, Qloop_exit, Qloop_ret, Qloop_pan,
    stepOp, ev, upd_apply, putF, cellsOf, deref, faddrV, mk, abin, abinI, abinS, ibits, aeqb, aun, fldV, idxOf, elems, isPtr, putRef, splice, fillA, rowsA, minV, peqV, elemsA, rowBytes, strOf, Store.get_push, Store.get_set, Store.n_push, Store.n_set,
    Option.map_some, Option.map_none, reduceIte, Nat.reduceEqDiff, Nat.reduceAdd, Nat.reduceLeDiff, Nat.reduceLT, Nat.zero_add, Nat.add_zero, Nat.add_assoc, Nat.add_left_cancel_iff, Nat.left_eq_add, Nat.add_eq_left, Nat.lt_irrefl, Nat.le_refl,
    List.drop_zero, List.drop_succ_cons, List.take_succ_cons, List.take_zero, List.headD_cons, List.length_cons, List.length_nil, List.getElem?_cons_zero, List.getElem?_cons_succ, List.set_cons_zero, List.set_cons_succ, List.map_cons, List.map_nil,
    Bool.not_true, Bool.not_false, Bool.false_eq_true, Bool.true_eq_false, Bool.not_eq_true', Bool.not_eq_false', eq_self, false_imp_iff, true_imp_iff, and_true, true_and, and_false, false_and, or_true, true_or, initFr, fr0_at, Qend, resL, resV1, pack,
    decide_eq_true_eq, decide_eq_false_iff_not, Int.toNat_natCast, Option.some.injEq, exists_eq_left', vc_cond2, vcC2_bool, vcCB_T, vcCB_F, vcCB_dec, decide_true, decide_false]
      exact hE
    have hl120 : ¬ ((byt j).length : Int) > 120 := by omega
    have hD := okD_at j (by omega)
    simp -implicitDefEqProofs only [f0, f3, f4, f5, hg3, hlt', hl120, encE_length, encE_take5, vc_region, vc_quiet, vcD_nil, vcD_val2, vcDO_val, vcDO_asks, vcD_eff, vcD_guard2, vcDG_TT, vcDG_FF, vcDG_TF, vcDG_FT, vcDG_und, vcDG_Tdec, vcDG_Fdec, vcDEff, saysAll, pendAll, pendNext, addPend, Says, vc_bad, vc_seq, vc_ret, vc_skip, vc_block, vc_exit, vcGrps_nil, vcGrps_cons, vcGrps_guard2, vcG2_bool, vcG2_und, vcGB_TT, vcGB_FF, vcGB_TF, vcGB_FT, vcGB_Tdec, vcGB_Fdec, vcOps_nil, vcOps_cons, vcOut, KCall_ret, KCall_pan, skipF_nil, skipF_cons, Qseq_normal, Qseq_ret, Qseq_exit, Qseq_pan, Qblk_normal, Qblk_exit, Qblk_ret, Qblk_pan, Qpan_eq, Qcut_normal, Qcut_exit, Qcut_ret, Qcut_pan, Qloop_normal, Qloop_exit, Qloop_ret, Qloop_pan,
    stepOp, ev, upd_apply, putF, cellsOf, deref, faddrV, mk, abin, abinI, abinS, ibits, aeqb, aun, fldV, idxOf, elems, isPtr, putRef, splice, fillA, rowsA, minV, peqV, elemsA, rowBytes, strOf, Store.get_push, Store.get_set, Store.n_push, Store.n_set,
    Option.map_some, Option.map_none, reduceIte, Nat.reduceEqDiff, Nat.reduceAdd, Nat.reduceLeDiff, Nat.reduceLT, Nat.zero_add, Nat.add_zero, Nat.add_assoc, Nat.add_left_cancel_iff, Nat.left_eq_add, Nat.add_eq_left, Nat.lt_irrefl, Nat.le_refl,
    List.drop_zero, List.drop_succ_cons, List.take_succ_cons, List.take_zero, List.headD_cons, List.length_cons, List.length_nil, List.getElem?_cons_zero, List.getElem?_cons_succ, List.set_cons_zero, List.set_cons_succ, List.map_cons, List.map_nil,
    Bool.not_true, Bool.not_false, Bool.false_eq_true, Bool.true_eq_false, Bool.not_eq_true', Bool.not_eq_false', eq_self, false_imp_iff, true_imp_iff, and_true, true_and, and_false, false_and, or_true, true_or, initFr, fr0_at, Qend, resL, resV1, pack,
    decide_eq_true_eq, decide_eq_false_iff_not, Int.toNat_natCast, Option.some.injEq, exists_eq_left', vc_cond2, vcC2_bool, vcCB_T, vcCB_F, vcCB_dec, decide_true, decide_false]
    intro _
    refine (c15 _ (nest_ok j)).use ?_
    simp -implicitDefEqProofs only [f0, f3, f4, f5, hg3, encE_length, encE_take5, vc_region, vc_quiet, vcD_nil, vcD_val2, vcDO_val, vcDO_asks, vcD_eff, vcD_guard2, vcDG_TT, vcDG_FF, vcDG_TF, vcDG_FT, vcDG_und, vcDG_Tdec, vcDG_Fdec, vcDEff, saysAll, pendAll, pendNext, addPend, Says, vc_bad, vc_seq, vc_ret, vc_skip, vc_block, vc_exit, vcGrps_nil, vcGrps_cons, vcGrps_guard2, vcG2_bool, vcG2_und, vcGB_TT, vcGB_FF, vcGB_TF, vcGB_FT, vcGB_Tdec, vcGB_Fdec, vcOps_nil, vcOps_cons, vcOut, KCall_ret, KCall_pan, skipF_nil, skipF_cons, Qseq_normal, Qseq_ret, Qseq_exit, Qseq_pan, Qblk_normal, Qblk_exit, Qblk_ret, Qblk_pan, Qpan_eq, Qcut_normal, Qcut_exit, Qcut_ret, Qcut_pan, Qloop_normal, Qloop_exit, Qloop_ret, Qloop_pan,
    stepOp, ev, upd_apply, putF, cellsOf, deref, faddrV, mk, abin, abinI, abinS, ibits, aeqb, aun, fldV, idxOf, elems, isPtr, putRef, splice, fillA, rowsA, minV, peqV, elemsA, rowBytes, strOf, Store.get_push, Store.get_set, Store.n_push, Store.n_set,
    Option.map_some, Option.map_none, reduceIte, Nat.reduceEqDiff, Nat.reduceAdd, Nat.reduceLeDiff, Nat.reduceLT, Nat.zero_add, Nat.add_zero, Nat.add_assoc, Nat.add_left_cancel_iff, Nat.left_eq_add, Nat.add_eq_left, Nat.lt_irrefl, Nat.le_refl,
    List.drop_zero, List.drop_succ_cons, List.take_succ_cons, List.take_zero, List.headD_cons, List.length_cons, List.length_nil, List.getElem?_cons_zero, List.getElem?_cons_succ, List.set_cons_zero, List.set_cons_succ, List.map_cons, List.map_nil,
    Bool.not_true, Bool.not_false, Bool.false_eq_true, Bool.true_eq_false, Bool.not_eq_true', Bool.not_eq_false', eq_self, false_imp_iff, true_imp_iff, and_true, true_and, and_false, false_and, or_true, true_or, initFr, fr0_at, Qend, resL, resV1, pack,
    decide_eq_true_eq, decide_eq_false_iff_not, Int.toNat_natCast, Option.some.injEq, exists_eq_left', vc_cond2, vcC2_bool, vcCB_T, vcCB_F, vcCB_dec, decide_true, decide_false]
    refine (c40 (byt j)).use ?_
    have hne : ¬ S.n = T.n := by omega
    unfold okD at hD
    by_cases h20 : j ≥ 20
    · rw [if_pos h20] at hD
      obtain ⟨d1, d2, d3⟩ := of_decide_eq_true hD
      rw [d1, d2, d3]
      have hgt : ((j + 1 : Nat) : Int) > 20 := by omega
      have hc : ((23 : Nat) : Int) = 23 := rfl
      simp -implicitDefEqProofs only [f0, f3, f4, f5, hg3, hgt, hc, hne, encE_length, encE_take5, splice_encE, vc_region, vc_quiet, vcD_nil, vcD_val2, vcDO_val, vcDO_asks, vcD_eff, vcD_guard2, vcDG_TT, vcDG_FF, vcDG_TF, vcDG_FT, vcDG_und, vcDG_Tdec, vcDG_Fdec, vcDEff, saysAll, pendAll, pendNext, addPend, Says, vc_bad, vc_seq, vc_ret, vc_skip, vc_block, vc_exit, vcGrps_nil, vcGrps_cons, vcGrps_guard2, vcG2_bool, vcG2_und, vcGB_TT, vcGB_FF, vcGB_TF, vcGB_FT, vcGB_Tdec, vcGB_Fdec, vcOps_nil, vcOps_cons, vcOut, KCall_ret, KCall_pan, skipF_nil, skipF_cons, Qseq_normal, Qseq_ret, Qseq_exit, Qseq_pan, Qblk_normal, Qblk_exit, Qblk_ret, Qblk_pan, Qpan_eq, Qcut_normal, Qcut_exit, Qcut_ret, Qcut_pan, Qloop_normal, Qloop_exit, Qloop_ret, Qloop_pan,
    stepOp, ev, upd_apply, putF, cellsOf, deref, faddrV, mk, abin, abinI, abinS, ibits, aeqb, aun, fldV, idxOf, elems, isPtr, putRef, splice, fillA, rowsA, minV, peqV, elemsA, rowBytes, strOf, Store.get_push, Store.get_set, Store.n_push, Store.n_set,
    Option.map_some, Option.map_none, reduceIte, Nat.reduceEqDiff, Nat.reduceAdd, Nat.reduceLeDiff, Nat.reduceLT, Nat.zero_add, Nat.add_zero, Nat.add_assoc, Nat.add_left_cancel_iff, Nat.left_eq_add, Nat.add_eq_left, Nat.lt_irrefl, Nat.le_refl,
    List.drop_zero, List.drop_succ_cons, List.take_succ_cons, List.take_zero, List.headD_cons, List.length_cons, List.length_nil, List.getElem?_cons_zero, List.getElem?_cons_succ, List.set_cons_zero, List.set_cons_succ, List.map_cons, List.map_nil,
    Bool.not_true, Bool.not_false, Bool.false_eq_true, Bool.true_eq_false, Bool.not_eq_true', Bool.not_eq_false', eq_self, false_imp_iff, true_imp_iff, and_true, true_and, and_false, false_and, or_true, true_or, initFr, fr0_at, Qend, resL, resV1, pack,
    decide_eq_true_eq, decide_eq_false_iff_not, Int.toNat_natCast, Option.some.injEq, exists_eq_left', vc_cond2, vcC2_bool, vcCB_T, vcCB_F, vcCB_dec, decide_true, decide_false]
      refine c13.use ?_
      simp -implicitDefEqProofs only [hc, vc_region, vc_quiet, vcD_nil, vcD_val2, vcDO_val, vcDO_asks, vcD_eff, vcD_guard2, vcDG_TT, vcDG_FF, vcDG_TF, vcDG_FT, vcDG_und, vcDG_Tdec, vcDG_Fdec, vcDEff, saysAll, pendAll, pendNext, addPend, Says, vc_bad, vc_seq, vc_ret, vc_skip, vc_block, vc_exit, vcGrps_nil, vcGrps_cons, vcGrps_guard2, vcG2_bool, vcG2_und, vcGB_TT, vcGB_FF, vcGB_TF, vcGB_FT, vcGB_Tdec, vcGB_Fdec, vcOps_nil, vcOps_cons, vcOut, KCall_ret, KCall_pan, skipF_nil, skipF_cons, Qseq_normal, Qseq_ret, Qseq_exit, Qseq_pan, Qblk_normal, Qblk_exit, Qblk_ret, Qblk_pan, Qpan_eq, Qcut_normal, Qcut_exit, Qcut_ret, Qcut_pan, Qloop_normal, Qloop_exit, Qloop_ret, Qloop_pan,
    stepOp, ev, upd_apply, putF, cellsOf, deref, faddrV, mk, abin, abinI, abinS, ibits, aeqb, aun, fldV, idxOf, elems, isPtr, putRef, splice, fillA, rowsA, minV, peqV, elemsA, rowBytes, strOf, Store.get_push, Store.get_set, Store.n_push, Store.n_set,
    Option.map_some, Option.map_none, reduceIte, Nat.reduceEqDiff, Nat.reduceAdd, Nat.reduceLeDiff, Nat.reduceLT, Nat.zero_add, Nat.add_zero, Nat.add_assoc, Nat.add_left_cancel_iff, Nat.left_eq_add, Nat.add_eq_left, Nat.lt_irrefl, Nat.le_refl,
    List.drop_zero, List.drop_succ_cons, List.take_succ_cons, List.take_zero, List.headD_cons, List.length_cons, List.length_nil, List.getElem?_cons_zero, List.getElem?_cons_succ, List.set_cons_zero, List.set_cons_succ, List.map_cons, List.map_nil,
    Bool.not_true, Bool.not_false, Bool.false_eq_true, Bool.true_eq_false, Bool.not_eq_true', Bool.not_eq_false', eq_self, false_imp_iff, true_imp_iff, and_true, true_and, and_false, false_and, or_true, true_or, initFr, fr0_at, Qend, resL, resV1, pack,
    decide_eq_true_eq, decide_eq_false_iff_not, Int.toNat_natCast, Option.some.injEq, exists_eq_left', vc_cond2, vcC2_bool, vcCB_T, vcCB_F, vcCB_dec, decide_true, decide_false]
      exact (hE.push _).set _ _ (by omega)
    · rw [if_neg h20, Bool.and_eq_true] at hD
      obtain ⟨d1, d2, d3⟩ := of_decide_eq_true hD.1
      rw [d1, d2, d3]
      have hgt : ¬ ((j + 1 : Nat) : Int) > 20 := by omega
      have hc : ((0 : Nat) : Int) = 0 := rfl
      simp -implicitDefEqProofs only [f0, f3, f4, f5, hg3, hgt, hc, hne, encE_length, encE_take5, splice_encE, vc_region, vc_quiet, vcD_nil, vcD_val2, vcDO_val, vcDO_asks, vcD_eff, vcD_guard2, vcDG_TT, vcDG_FF, vcDG_TF, vcDG_FT, vcDG_und, vcDG_Tdec, vcDG_Fdec, vcDEff, saysAll, pendAll, pendNext, addPend, Says, vc_bad, vc_seq, vc_ret, vc_skip, vc_block, vc_exit, vcGrps_nil, vcGrps_cons, vcGrps_guard2, vcG2_bool, vcG2_und, vcGB_TT, vcGB_FF, vcGB_TF, vcGB_FT, vcGB_Tdec, vcGB_Fdec, vcOps_nil, vcOps_cons, vcOut, KCall_ret, KCall_pan, skipF_nil, skipF_cons, Qseq_normal, Qseq_ret, Qseq_exit, Qseq_pan, Qblk_normal, Qblk_exit, Qblk_ret, Qblk_pan, Qpan_eq, Qcut_normal, Qcut_exit, Qcut_ret, Qcut_pan, Qloop_normal, Qloop_exit, Qloop_ret, Qloop_pan,
    stepOp, ev, upd_apply, putF, cellsOf, deref, faddrV, mk, abin, abinI, abinS, ibits, aeqb, aun, fldV, idxOf, elems, isPtr, putRef, splice, fillA, rowsA, minV, peqV, elemsA, rowBytes, strOf, Store.get_push, Store.get_set, Store.n_push, Store.n_set,
    Option.map_some, Option.map_none, reduceIte, Nat.reduceEqDiff, Nat.reduceAdd, Nat.reduceLeDiff, Nat.reduceLT, Nat.zero_add, Nat.add_zero, Nat.add_assoc, Nat.add_left_cancel_iff, Nat.left_eq_add, Nat.add_eq_left, Nat.lt_irrefl, Nat.le_refl,
    List.drop_zero, List.drop_succ_cons, List.take_succ_cons, List.take_zero, List.headD_cons, List.length_cons, List.length_nil, List.getElem?_cons_zero, List.getElem?_cons_succ, List.set_cons_zero, List.set_cons_succ, List.map_cons, List.map_nil,
    Bool.not_true, Bool.not_false, Bool.false_eq_true, Bool.true_eq_false, Bool.not_eq_true', Bool.not_eq_false', eq_self, false_imp_iff, true_imp_iff, and_true, true_and, and_false, false_and, or_true, true_or, initFr, fr0_at, Qend, resL, resV1, pack,
    decide_eq_true_eq, decide_eq_false_iff_not, Int.toNat_natCast, Option.some.injEq, exists_eq_left', vc_cond2, vcC2_bool, vcCB_T, vcCB_F, vcCB_dec, decide_true, decide_false]
      refine c13.use ?_
      simp -implicitDefEqProofs only [f0, f3, f4, f5, hg3, hc, hne, encE_length, encE_take5, vc_region, vc_quiet, vcD_nil, vcD_val2, vcDO_val, vcDO_asks, vcD_eff, vcD_guard2, vcDG_TT, vcDG_FF, vcDG_TF, vcDG_FT, vcDG_und, vcDG_Tdec, vcDG_Fdec, vcDEff, saysAll, pendAll, pendNext, addPend, Says, vc_bad, vc_seq, vc_ret, vc_skip, vc_block, vc_exit, vcGrps_nil, vcGrps_cons, vcGrps_guard2, vcG2_bool, vcG2_und, vcGB_TT, vcGB_FF, vcGB_TF, vcGB_FT, vcGB_Tdec, vcGB_Fdec, vcOps_nil, vcOps_cons, vcOut, KCall_ret, KCall_pan, skipF_nil, skipF_cons, Qseq_normal, Qseq_ret, Qseq_exit, Qseq_pan, Qblk_normal, Qblk_exit, Qblk_ret, Qblk_pan, Qpan_eq, Qcut_normal, Qcut_exit, Qcut_ret, Qcut_pan, Qloop_normal, Qloop_exit, Qloop_ret, Qloop_pan,
    stepOp, ev, upd_apply, putF, cellsOf, deref, faddrV, mk, abin, abinI, abinS, ibits, aeqb, aun, fldV, idxOf, elems, isPtr, putRef, splice, fillA, rowsA, minV, peqV, elemsA, rowBytes, strOf, Store.get_push, Store.get_set, Store.n_push, Store.n_set,
    Option.map_some, Option.map_none, reduceIte, Nat.reduceEqDiff, Nat.reduceAdd, Nat.reduceLeDiff, Nat.reduceLT, Nat.zero_add, Nat.add_zero, Nat.add_assoc, Nat.add_left_cancel_iff, Nat.left_eq_add, Nat.add_eq_left, Nat.lt_irrefl, Nat.le_refl,
    List.drop_zero, List.drop_succ_cons, List.take_succ_cons, List.take_zero, List.headD_cons, List.length_cons, List.length_nil, List.getElem?_cons_zero, List.getElem?_cons_succ, List.set_cons_zero, List.set_cons_succ, List.map_cons, List.map_nil,
    Bool.not_true, Bool.not_false, Bool.false_eq_true, Bool.true_eq_false, Bool.not_eq_true', Bool.not_eq_false', eq_self, false_imp_iff, true_imp_iff, and_true, true_and, and_false, false_and, or_true, true_or, initFr, fr0_at, Qend, resL, resV1, pack,
    decide_eq_true_eq, decide_eq_false_iff_not, Int.toNat_natCast, Option.some.injEq, exists_eq_left', vc_cond2, vcC2_bool, vcCB_T, vcCB_F, vcCB_dec, decide_true, decide_false]
      refine (c17 _ _).use ?_
      rw [hD.2]
      simp -implicitDefEqProofs only [vc_region, vc_quiet, vcD_nil, vcD_val2, vcDO_val, vcDO_asks, vcD_eff, vcD_guard2, vcDG_TT, vcDG_FF, vcDG_TF, vcDG_FT, vcDG_und, vcDG_Tdec, vcDG_Fdec, vcDEff, saysAll, pendAll, pendNext, addPend, Says, vc_bad, vc_seq, vc_ret, vc_skip, vc_block, vc_exit, vcGrps_nil, vcGrps_cons, vcGrps_guard2, vcG2_bool, vcG2_und, vcGB_TT, vcGB_FF, vcGB_TF, vcGB_FT, vcGB_Tdec, vcGB_Fdec, vcOps_nil, vcOps_cons, vcOut, KCall_ret, KCall_pan, skipF_nil, skipF_cons, Qseq_normal, Qseq_ret, Qseq_exit, Qseq_pan, Qblk_normal, Qblk_exit, Qblk_ret, Qblk_pan, Qpan_eq, Qcut_normal, Qcut_exit, Qcut_ret, Qcut_pan, Qloop_normal, Qloop_exit, Qloop_ret, Qloop_pan,
    stepOp, ev, upd_apply, putF, cellsOf, deref, faddrV, mk, abin, abinI, abinS, ibits, aeqb, aun, fldV, idxOf, elems, isPtr, putRef, splice, fillA, rowsA, minV, peqV, elemsA, rowBytes, strOf, Store.get_push, Store.get_set, Store.n_push, Store.n_set,
    Option.map_some, Option.map_none, reduceIte, Nat.reduceEqDiff, Nat.reduceAdd, Nat.reduceLeDiff, Nat.reduceLT, Nat.zero_add, Nat.add_zero, Nat.add_assoc, Nat.add_left_cancel_iff, Nat.left_eq_add, Nat.add_eq_left, Nat.lt_irrefl, Nat.le_refl,
    List.drop_zero, List.drop_succ_cons, List.take_succ_cons, List.take_zero, List.headD_cons, List.length_cons, List.length_nil, List.getElem?_cons_zero, List.getElem?_cons_succ, List.set_cons_zero, List.set_cons_succ, List.map_cons, List.map_nil,
    Bool.not_true, Bool.not_false, Bool.false_eq_true, Bool.true_eq_false, Bool.not_eq_true', Bool.not_eq_false', eq_self, false_imp_iff, true_imp_iff, and_true, true_and, and_false, false_and, or_true, true_or, initFr, fr0_at, Qend, resL, resV1, pack,
    decide_eq_true_eq, decide_eq_false_iff_not, Int.toNat_natCast, Option.some.injEq, exists_eq_left', vc_cond2, vcC2_bool, vcCB_T, vcCB_F, vcCB_dec, decide_true, decide_false]
      exact (hE.push _).set _ _ (by omega)
end Go.Proofs.Ytmlllckecalaaaa.Eng
