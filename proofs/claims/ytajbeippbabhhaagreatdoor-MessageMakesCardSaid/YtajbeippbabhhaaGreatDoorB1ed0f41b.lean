import Derived.KernelRfl
import Derived.Test.YtajbeippbabhhaaGreatDoorProg
import Derived.Test.YtajbeippbabhhaaGreatDoorB33c46c11
set_option linter.unusedVariables false
set_option linter.unusedSimpArgs false
namespace Go.Proofs.YtajbeippbabhhaaGreatDoor.Eng
open Go Go.Proofs.Tryz

/-! ## What an element has -/
def isS (e : Elem) (c t : Int) (k : Bool) : Bool := decide (e.cls = c) && (decide (e.tag = t) && decide (e.cons = k))
theorem c57 (e : Elem) (c t : Int) (k : Bool) : Pure prog 147 [.agg (encE e), .int .i64 c, .int .i64 t, .bool k] (.bool (isS e c t k)) := by
  refine Pure.of (fun _ _ => by simp only [nm]) fun S => acalls_of_vc low57 (by simp) ?_
  have hx := (Ext.refl S).push
  rw [encE_eta e]
  unfold isS
  by_cases h1 : e.cls = c
  · by_cases h2 : e.tag = t
    · simp -implicitDefEqProofs only [B57, h1, h2, Bool.true_and, go_sem, reduceIte, Nat.reduceEqDiff, Nat.reduceAdd, Nat.reduceLeDiff, Nat.reduceLT, decide_true, decide_false, vc_cond2, vcGrps_guard2, vcD_val2, vcD_guard2]
      exact hx _
    · simp -implicitDefEqProofs only [B57, h1, h2, Bool.true_and, Bool.false_and, go_sem, reduceIte, Nat.reduceEqDiff, Nat.reduceAdd, Nat.reduceLeDiff, Nat.reduceLT, decide_true, decide_false, vc_cond2, vcGrps_guard2, vcD_val2, vcD_guard2]
      exact hx _
  · simp -implicitDefEqProofs only [B57, h1, Bool.true_and, Bool.false_and, go_sem, reduceIte, Nat.reduceEqDiff, Nat.reduceAdd, Nat.reduceLeDiff, Nat.reduceLT, decide_true, decide_false, vc_cond2, vcGrps_guard2, vcD_val2, vcD_guard2]
    exact hx _
theorem c58 (e : Elem) (c t : Int) (k : Bool) : Pure prog 295 [.agg (encE e), .int .i64 c, .int .i64 t, .bool k] (.bool (isS e c t k)) := by
  refine Pure.of (fun _ _ => by simp only [nm]) fun S => acalls_of_vc low58 (by simp) ?_
  have hx := (Ext.refl S).push
  rw [encE_eta e]
  unfold isS
  by_cases h1 : e.cls = c
  · by_cases h2 : e.tag = t
    · simp -implicitDefEqProofs only [B58, h1, h2, Bool.true_and, go_sem, reduceIte, Nat.reduceEqDiff, Nat.reduceAdd, Nat.reduceLeDiff, Nat.reduceLT, decide_true, decide_false, vc_cond2, vcGrps_guard2, vcD_val2, vcD_guard2]
      exact hx _
    · simp -implicitDefEqProofs only [B58, h1, h2, Bool.true_and, Bool.false_and, go_sem, reduceIte, Nat.reduceEqDiff, Nat.reduceAdd, Nat.reduceLeDiff, Nat.reduceLT, decide_true, decide_false, vc_cond2, vcGrps_guard2, vcD_val2, vcD_guard2]
      exact hx _
  · simp -implicitDefEqProofs only [B58, h1, Bool.true_and, Bool.false_and, go_sem, reduceIte, Nat.reduceEqDiff, Nat.reduceAdd, Nat.reduceLeDiff, Nat.reduceLT, decide_true, decide_false, vc_cond2, vcGrps_guard2, vcD_val2, vcD_guard2]
    exact hx _

def getIntS (e : Elem) (c t : Int) : Int × Int := if isS e c t false = true ∧ 1 ≤ e.bytes.length ∧ e.bytes.length ≤ 8 then (sv e.bytes, 0) else (0, 24)
theorem c30 (e : Elem) (c t : Int) : Pure prog 25 [.agg (encE e), .int .i64 c, .int .i64 t] (.tup [.int .i64 (getIntS e c t).1, .int .i64 (getIntS e c t).2]) := by
  refine Pure.of (fun _ _ => by simp only [nm, nmL, and_self]) fun S => acalls_of_vc low30 (by simp) ?_
  have hx := (Ext.refl S).push
  have h57 := c57 e c t false
  rw [encE_eta e] at h57 ⊢
  simp -implicitDefEqProofs only [B30, go_sem, reduceIte, Nat.reduceEqDiff, Nat.reduceAdd, Nat.reduceLeDiff, Nat.reduceLT, decide_true, decide_false, vc_cond2, vcGrps_guard2, vcD_val2, vcD_guard2]
  refine (c56 e.bytes).use ?_
  simp -implicitDefEqProofs only [go_sem, reduceIte, Nat.reduceEqDiff, Nat.reduceAdd, Nat.reduceLeDiff, Nat.reduceLT, decide_true, decide_false, vc_cond2, vcGrps_guard2, vcD_val2, vcD_guard2]
  refine h57.use ?_
  unfold getIntS
  by_cases hl : 1 ≤ e.bytes.length ∧ e.bytes.length ≤ 8
  · cases hi : isS e c t false
    all_goals
      simp -implicitDefEqProofs only [hl, ne_eq, not_true, go_sem, reduceIte, Nat.reduceEqDiff, Nat.reduceAdd, Nat.reduceLeDiff, Nat.reduceLT, decide_true, decide_false, vc_cond2, vcGrps_guard2, vcD_val2, vcD_guard2]
      first | exact hx _ | exact ⟨rfl, hx _⟩
  · have h10 : ¬ (1 : Int) = 0 := by decide
    cases hi : isS e c t false
    all_goals
      simp -implicitDefEqProofs only [hl, h10, ne_eq, not_true, not_false_eq_true, go_sem, reduceIte, Nat.reduceEqDiff, Nat.reduceAdd, Nat.reduceLeDiff, Nat.reduceLT, decide_true, decide_false, vc_cond2, vcGrps_guard2, vcD_val2, vcD_guard2]
      first | exact hx _ | exact ⟨rfl, hx _⟩
theorem c31 (e : Elem) (c t : Int) : Pure prog 197 [.agg (encE e), .int .i64 c, .int .i64 t] (.tup [.int .i64 (getIntS e c t).1, .int .i64 (getIntS e c t).2]) := by
  refine Pure.of (fun _ _ => by simp only [nm, nmL, and_self]) fun S => acalls_of_vc low31 (by simp) ?_
  have hx := (Ext.refl S).push
  have h58 := c58 e c t false
  rw [encE_eta e] at h58 ⊢
  simp -implicitDefEqProofs only [B31, go_sem, reduceIte, Nat.reduceEqDiff, Nat.reduceAdd, Nat.reduceLeDiff, Nat.reduceLT, decide_true, decide_false, vc_cond2, vcGrps_guard2, vcD_val2, vcD_guard2]
  refine h58.use ?_
  unfold getIntS
  cases hi : isS e c t false
  · simp -implicitDefEqProofs only [go_sem, reduceIte, Nat.reduceEqDiff, Nat.reduceAdd, Nat.reduceLeDiff, Nat.reduceLT, decide_true, decide_false, vc_cond2, vcGrps_guard2, vcD_val2, vcD_guard2]
    first | exact hx _ | exact ⟨rfl, hx _⟩
  by_cases h1 : 1 ≤ e.bytes.length
  · have h1' : ¬ (e.bytes.length : Int) < 1 := by omega
    by_cases h8 : e.bytes.length ≤ 8
    · have h8' : ¬ (e.bytes.length : Int) > 8 := by omega
      simp -implicitDefEqProofs only [h1, h8, h1', h8', ne_eq, not_true, go_sem, reduceIte, Nat.reduceEqDiff, Nat.reduceAdd, Nat.reduceLeDiff, Nat.reduceLT, decide_true, decide_false, vc_cond2, vcGrps_guard2, vcD_val2, vcD_guard2]
      intro _ _
      refine (c59 e.bytes h1 h8).use ?_
      simp -implicitDefEqProofs only [go_sem, reduceIte, Nat.reduceEqDiff, Nat.reduceAdd, Nat.reduceLeDiff, Nat.reduceLT, decide_true, decide_false, vc_cond2, vcGrps_guard2, vcD_val2, vcD_guard2]
      first | exact hx _ | exact ⟨rfl, hx _⟩
    · have h8' : (e.bytes.length : Int) > 8 := by omega
      simp -implicitDefEqProofs only [h1, h8, h1', h8', ne_eq, not_true, go_sem, reduceIte, Nat.reduceEqDiff, Nat.reduceAdd, Nat.reduceLeDiff, Nat.reduceLT, decide_true, decide_false, vc_cond2, vcGrps_guard2, vcD_val2, vcD_guard2]
      intro _ _
      first | exact hx _ | exact ⟨rfl, hx _⟩
  · have h1' : (e.bytes.length : Int) < 1 := by omega
    simp -implicitDefEqProofs only [h1, h1', ne_eq, not_true, go_sem, reduceIte, Nat.reduceEqDiff, Nat.reduceAdd, Nat.reduceLeDiff, Nat.reduceLT, decide_true, decide_false, vc_cond2, vcGrps_guard2, vcD_val2, vcD_guard2]
    intro _
    first | exact hx _ | exact ⟨rfl, hx _⟩

def getStrS (e : Elem) (c t : Int) : List UInt8 × Int := if isS e c t false = true then (e.bytes, 0) else ([], 24)
theorem c32 (e : Elem) (c t : Int) : Pure prog 313 [.agg (encE e), .int .i64 c, .int .i64 t] (.tup [.str (getStrS e c t).1, .int .i64 (getStrS e c t).2]) := by
  refine Pure.of (fun _ _ => by simp only [nm, nmL, and_self]) fun S => acalls_of_vc low32 (by simp) ?_
  have hx := (Ext.refl S).push
  have h57 := c57 e c t false
  rw [encE_eta e] at h57 ⊢
  simp -implicitDefEqProofs only [B32, go_sem, reduceIte, Nat.reduceEqDiff, Nat.reduceAdd, Nat.reduceLeDiff, Nat.reduceLT, decide_true, decide_false, vc_cond2, vcGrps_guard2, vcD_val2, vcD_guard2]
  refine h57.use ?_
  unfold getStrS
  cases hi : isS e c t false
  all_goals
    simp -implicitDefEqProofs only [go_sem, reduceIte, Nat.reduceEqDiff, Nat.reduceAdd, Nat.reduceLeDiff, Nat.reduceLT, decide_true, decide_false, vc_cond2, vcGrps_guard2, vcD_val2, vcD_guard2]
    first | exact hx _ | exact ⟨rfl, hx _⟩
theorem c33 (e : Elem) (c t : Int) : Pure prog 297 [.agg (encE e), .int .i64 c, .int .i64 t] (.tup [.str (getStrS e c t).1, .int .i64 (getStrS e c t).2]) := by
  refine Pure.of (fun _ _ => by simp only [nm, nmL, and_self]) fun S => acalls_of_vc low33 (by simp) ?_
  have hx := (Ext.refl S).push
  have h58 := c58 e c t false
  rw [encE_eta e] at h58 ⊢
  simp -implicitDefEqProofs only [B33, go_sem, reduceIte, Nat.reduceEqDiff, Nat.reduceAdd, Nat.reduceLeDiff, Nat.reduceLT, decide_true, decide_false, vc_cond2, vcGrps_guard2, vcD_val2, vcD_guard2]
  refine h58.use ?_
  unfold getStrS
  cases hi : isS e c t false
  all_goals
    simp -implicitDefEqProofs only [go_sem, reduceIte, Nat.reduceEqDiff, Nat.reduceAdd, Nat.reduceLeDiff, Nat.reduceLT, decide_true, decide_false, vc_cond2, vcGrps_guard2, vcD_val2, vcD_guard2]
    first | exact hx _ | exact ⟨rfl, hx _⟩

def getBoolS (e : Elem) (c t : Int) : Bool × Int := if isS e c t false = true ∧ e.bytes.length = 1 then (decide ((e.bytes.headD 0).toNat ≠ 0), 0) else (false, 24)
theorem c34 (e : Elem) (c t : Int) : Pure prog 318 [.agg (encE e), .int .i64 c, .int .i64 t] (.tup [.bool (getBoolS e c t).1, .int .i64 (getBoolS e c t).2]) := by
  refine Pure.of (fun _ _ => by simp only [nm, nmL, and_self]) fun S => acalls_of_vc low34 (by simp) ?_
  have hx := (Ext.refl S).push
  have h57 := c57 e c t false
  rw [encE_eta e] at h57 ⊢
  simp -implicitDefEqProofs only [B34, go_sem, reduceIte, Nat.reduceEqDiff, Nat.reduceAdd, Nat.reduceLeDiff, Nat.reduceLT, decide_true, decide_false, vc_cond2, vcGrps_guard2, vcD_val2, vcD_guard2]
  refine h57.use ?_
  unfold getBoolS
  cases hi : isS e c t false
  · simp -implicitDefEqProofs only [go_sem, reduceIte, Nat.reduceEqDiff, Nat.reduceAdd, Nat.reduceLeDiff, Nat.reduceLT, decide_true, decide_false, vc_cond2, vcGrps_guard2, vcD_val2, vcD_guard2]
    first | exact hx _ | exact ⟨rfl, hx _⟩
  by_cases h1 : e.bytes.length = 1
  · obtain ⟨b, hb⟩ : ∃ b, e.bytes = [b] := List.length_eq_one_iff.1 h1
    have h11 : ((1 : Nat) : Int) = 1 := rfl
    have h00 : (0 : Int) ≤ 0 := by decide
    have hg : [b][Int.toNat 0]? = some b := rfl
    have hn : ∀ n : Nat, ((n : Int) = 0) = (n = 0) := fun n => propext (by omega)
    simp -implicitDefEqProofs only [hb, h11, h00, hg, hn, ne_eq, not_true, go_sem, reduceIte, Nat.reduceEqDiff, Nat.reduceAdd, Nat.reduceLeDiff, Nat.reduceLT, decide_true, decide_false, vc_cond2, vcGrps_guard2, vcD_val2, vcD_guard2]
    first | exact hx _ | exact ⟨rfl, hx _⟩ | exact fun _ => hx _ | exact fun _ => ⟨rfl, hx _⟩
  · have h1' : ¬ (e.bytes.length : Int) = 1 := by omega
    simp -implicitDefEqProofs only [h1, h1', ne_eq, not_true, not_false_eq_true, go_sem, reduceIte, Nat.reduceEqDiff, Nat.reduceAdd, Nat.reduceLeDiff, Nat.reduceLT, decide_true, decide_false, vc_cond2, vcGrps_guard2, vcD_val2, vcD_guard2]
    first | exact hx _ | exact ⟨rfl, hx _⟩ | exact fun _ => hx _ | exact fun _ => ⟨rfl, hx _⟩
theorem c35 (e : Elem) (c t : Int) : Pure prog 298 [.agg (encE e), .int .i64 c, .int .i64 t] (.tup [.bool (getBoolS e c t).1, .int .i64 (getBoolS e c t).2]) := by
  refine Pure.of (fun _ _ => by simp only [nm, nmL, and_self]) fun S => acalls_of_vc low35 (by simp) ?_
  have hx := (Ext.refl S).push
  have h58 := c58 e c t false
  rw [encE_eta e] at h58 ⊢
  simp -implicitDefEqProofs only [B35, go_sem, reduceIte, Nat.reduceEqDiff, Nat.reduceAdd, Nat.reduceLeDiff, Nat.reduceLT, decide_true, decide_false, vc_cond2, vcGrps_guard2, vcD_val2, vcD_guard2]
  refine h58.use ?_
  unfold getBoolS
  cases hi : isS e c t false
  · simp -implicitDefEqProofs only [go_sem, reduceIte, Nat.reduceEqDiff, Nat.reduceAdd, Nat.reduceLeDiff, Nat.reduceLT, decide_true, decide_false, vc_cond2, vcGrps_guard2, vcD_val2, vcD_guard2]
    first | exact hx _ | exact ⟨rfl, hx _⟩
  by_cases h1 : e.bytes.length = 1
  · obtain ⟨b, hb⟩ : ∃ b, e.bytes = [b] := List.length_eq_one_iff.1 h1
    have h11 : ((1 : Nat) : Int) = 1 := rfl
    have h00 : (0 : Int) ≤ 0 := by decide
    have hg : [b][Int.toNat 0]? = some b := rfl
    have hn : ∀ n : Nat, ((n : Int) = 0) = (n = 0) := fun n => propext (by omega)
    simp -implicitDefEqProofs only [hb, h11, h00, hg, hn, ne_eq, not_true, go_sem, reduceIte, Nat.reduceEqDiff, Nat.reduceAdd, Nat.reduceLeDiff, Nat.reduceLT, decide_true, decide_false, vc_cond2, vcGrps_guard2, vcD_val2, vcD_guard2]
    first | exact hx _ | exact ⟨rfl, hx _⟩ | exact fun _ => hx _ | exact fun _ => ⟨rfl, hx _⟩
  · have h1' : ¬ (e.bytes.length : Int) = 1 := by omega
    simp -implicitDefEqProofs only [h1, h1', ne_eq, not_true, not_false_eq_true, go_sem, reduceIte, Nat.reduceEqDiff, Nat.reduceAdd, Nat.reduceLeDiff, Nat.reduceLT, decide_true, decide_false, vc_cond2, vcGrps_guard2, vcD_val2, vcD_guard2]
    first | exact hx _ | exact ⟨rfl, hx _⟩ | exact fun _ => hx _ | exact fun _ => ⟨rfl, hx _⟩

def kidsS (e : Elem) (c t : Int) : List Elem := if isS e c t true = true then copyEs e.kids else []
def kidsR (e : Elem) (c t : Int) : List Elem := if isS e c t true = true then e.kids else []
def kidsE (e : Elem) (c t : Int) : List (List AV) := if isS e c t true = true then e.ext else []
def kidsN (e : Elem) (c t : Int) : Int := if isS e c t true = true then 0 else 24
theorem c36 (e : Elem) (c t : Int) (hok : okE e) : Pure prog 271 [.agg (encE e), .int .i64 c, .int .i64 t] (.tup [lstV (kidsS e c t) [], .int .i64 (kidsN e c t)]) := by
  obtain ⟨_, _, _, hkl, hks⟩ := okE_eta hok
  have h57 := c57 e c t true
  unfold kidsS kidsN
  cases hi : isS e c t true
  · refine Pure.weak (Pure.of (v := .tup [.lit (.slice none 0 0), .int .i64 24]) (fun _ _ => by simp only [nm, nmL, and_self]) fun S => acalls_of_vc low36 (by simp) ?_) (Wk.tup (.cons (Wk.nil 5) (.cons (Wk.refl _) .nil)))
    have hx := (Ext.refl S).push
    rw [hi] at h57
    rw [encE_eta e] at h57 ⊢
    simp -implicitDefEqProofs only [B36, go_sem, reduceIte, Nat.reduceEqDiff, Nat.reduceAdd, Nat.reduceLeDiff, Nat.reduceLT, decide_true, decide_false, vc_cond2, vcGrps_guard2, vcD_val2, vcD_guard2]
    refine h57.use ?_
    simp -implicitDefEqProofs only [go_sem, reduceIte, Nat.reduceEqDiff, Nat.reduceAdd, Nat.reduceLeDiff, Nat.reduceLT, decide_true, decide_false, vc_cond2, vcGrps_guard2, vcD_val2, vcD_guard2]
    exact hx _
  · refine Pure.of (fun n _ => by simp only [nm, nmL, lstV, if_true, List.append_nil, and_true]; exact nm_copys _ _) fun S => acalls_of_vc low36 (by simp) ?_
    have hx := (Ext.refl S).push
    have h54 := c54 e.kids e.ext hkl hks
    unfold lstV at h54 ⊢
    rw [hi] at h57
    rw [encE_eta e] at h57 ⊢
    simp -implicitDefEqProofs only [B36, go_sem, reduceIte, Nat.reduceEqDiff, Nat.reduceAdd, Nat.reduceLeDiff, Nat.reduceLT, decide_true, decide_false, vc_cond2, vcGrps_guard2, vcD_val2, vcD_guard2]
    refine h57.use ?_
    simp -implicitDefEqProofs only [go_sem, reduceIte, Nat.reduceEqDiff, Nat.reduceAdd, Nat.reduceLeDiff, Nat.reduceLT, decide_true, decide_false, vc_cond2, vcGrps_guard2, vcD_val2, vcD_guard2]
    refine h54.use ?_
    simp -implicitDefEqProofs only [go_sem, reduceIte, Nat.reduceEqDiff, Nat.reduceAdd, Nat.reduceLeDiff, Nat.reduceLT, decide_true, decide_false, vc_cond2, vcGrps_guard2, vcD_val2, vcD_guard2]
    exact hx _
theorem c37 (e : Elem) (c t : Int) : Pure prog 196 [.agg (encE e), .int .i64 c, .int .i64 t] (.tup [lstV (kidsR e c t) (kidsE e c t), .int .i64 (kidsN e c t)]) := by
  have h58 := c58 e c t true
  unfold kidsR kidsE kidsN
  cases hi : isS e c t true
  · refine Pure.weak (Pure.of (v := .tup [.lit (.slice none 0 0), .int .i64 24]) (fun _ _ => by simp only [nm, nmL, and_self]) fun S => acalls_of_vc low37 (by simp) ?_) (Wk.tup (.cons (Wk.nil 5) (.cons (Wk.refl _) .nil)))
    have hx := (Ext.refl S).push
    rw [hi] at h58
    rw [encE_eta e] at h58 ⊢
    simp -implicitDefEqProofs only [B37, go_sem, reduceIte, Nat.reduceEqDiff, Nat.reduceAdd, Nat.reduceLeDiff, Nat.reduceLT, decide_true, decide_false, vc_cond2, vcGrps_guard2, vcD_val2, vcD_guard2]
    refine h58.use ?_
    simp -implicitDefEqProofs only [go_sem, reduceIte, Nat.reduceEqDiff, Nat.reduceAdd, Nat.reduceLeDiff, Nat.reduceLT, decide_true, decide_false, vc_cond2, vcGrps_guard2, vcD_val2, vcD_guard2]
    exact hx _
  · refine Pure.of (fun n h => by
      simp only [nmL, nm, and_true] at h
      have := nm_encE e n h
      simp only [nm, nmL, lstV, if_true, and_true]; exact this) fun S => acalls_of_vc low37 (by simp) ?_
    have hx := (Ext.refl S).push
    unfold lstV
    rw [hi] at h58
    rw [encE_eta e] at h58 ⊢
    simp -implicitDefEqProofs only [B37, go_sem, reduceIte, Nat.reduceEqDiff, Nat.reduceAdd, Nat.reduceLeDiff, Nat.reduceLT, decide_true, decide_false, vc_cond2, vcGrps_guard2, vcD_val2, vcD_guard2]
    refine h58.use ?_
    simp -implicitDefEqProofs only [go_sem, reduceIte, Nat.reduceEqDiff, Nat.reduceAdd, Nat.reduceLeDiff, Nat.reduceLT, decide_true, decide_false, vc_cond2, vcGrps_guard2, vcD_val2, vcD_guard2]
    exact hx _
end Go.Proofs.YtajbeippbabhhaaGreatDoor.Eng

namespace Go.Proofs.YtajbeippbabhhaaGreatDoor.Eng
open Go Go.Proofs.Tryz

theorem c68 (l : List UInt8) (h1 : 1 ≤ l.length) (h7 : l.length ≤ 7) : Pure prog 319 [.str l] (.tup [.int .i64 (getS l), .int .i64 0]) := by
  refine Pure.of (fun _ _ => by simp only [nm, nmL, and_self]) fun S => acalls_of_vc low68 (by simp) ?_
  have hx := Ext.refl S
  have g1 : ¬ ((l.length : Int) < 1) := by omega
  have g2 : ¬ ((l.length : Int) > 7) := by omega
  simp -implicitDefEqProofs only [B68, g1, g2, go_sem, reduceIte, Nat.reduceEqDiff, Nat.reduceAdd, Nat.reduceLeDiff, Nat.reduceLT, decide_true, decide_false, vc_cond2, vcGrps_guard2, vcD_val2, vcD_guard2]
  intro _ _
  refine vc_loop (fun n fr T => ∃ i : Nat, i + n = l.length ∧ fr 0 = .str l ∧ fr 5 = .int .i64 i ∧ fr 4 = .int .i64 (getS (l.take i)) ∧ T = S) l.length ⟨0, by omega, by simp [upd_apply], by simp [upd_apply], by simp [upd_apply, getS], rfl⟩ ?_
  rintro n fr T ⟨i, hin, f0, f16, f4, rfl⟩
  by_cases hlt : i < l.length
  · obtain ⟨b, hb⟩ : ∃ b, l[i]? = some b := ⟨_, List.getElem?_eq_getElem hlt⟩
    have h0 : (0 : Int) ≤ i := by omega
    have hlt' : (i : Int) < l.length := by omega
    have hi1 : IntKind.i64.wrap ((i : Int) + 1) = i + 1 := w64 _ (by omega) (by omega)
    have hv := getS_lt (l.take i)
    rw [List.length_take, Nat.min_eq_left (by omega)] at hv
    have hp := pow256 i (by omega)
    have hbl := b.toNat_lt
    have hmul : IntKind.i64.wrap ((getS (l.take i) : Int) * 256) = ((getS (l.take i) * 256 : Nat) : Int) := by
      rw [w64 _ (by omega) (by omega)]; omega
    have hwb : IntKind.i64.wrap (b.toNat : Int) = b.toNat := w64 _ (by omega) (by omega)
    have hadd : IntKind.i64.wrap (((getS (l.take i) * 256 : Nat) : Int) + (b.toNat : Int)) = ((getS (l.take i) * 256 + b.toNat : Nat) : Int) := by
      rw [w64 _ (by omega) (by omega)]; omega
    simp -implicitDefEqProofs only [f0, f16, f4, hlt', h0, hb, hi1, hmul, hwb, hadd, go_sem, reduceIte, Nat.reduceEqDiff, Nat.reduceAdd, Nat.reduceLeDiff, Nat.reduceLT, decide_true, decide_false, vc_cond2, vcGrps_guard2, vcD_val2, vcD_guard2]
    exact fun _ => ⟨n - 1, by omega, i + 1, by omega, by simp, by rw [take_get hb, getS_app]⟩
  · have hlt' : ¬ (i : Int) < l.length := by omega
    have hi : i = l.length := by omega
    rw [hi, List.take_length] at f4
    simp -implicitDefEqProofs only [f0, f16, f4, hlt', go_sem, reduceIte, Nat.reduceEqDiff, Nat.reduceAdd, Nat.reduceLeDiff, Nat.reduceLT, decide_true, decide_false, vc_cond2, vcGrps_guard2, vcD_val2, vcD_guard2]
    exact fun _ => hx

theorem tm32 (n : Nat) : (n : Int).tmod 32 = ((n % 32 : Nat) : Int) := u8m n 32
theorem c60 (b : List UInt8) : Pure prog 294 [.str b] (encH (rheadS b)) := by
  refine Pure.of (fun _ _ => by simp only [encH, nm, nmL, and_self]) fun S => acalls_of_vc low60 (by simp) ?_
  have hx := Ext.refl S
  have hz : Int.toNat 0 = 0 := rfl
  have hz1 : Int.toNat 1 = 1 := rfl
  have hc1 : ((1 : Nat) : Int) = 1 := rfl
  have hc0 : ((0 : Nat) : Int) = 0 := rfl
  have g01 : (0 : Int) < 1 := by decide
  have g11 : ¬ (1 : Int) < 1 := by decide
  have g12 : (1 : Int) < 2 := by decide
  have h320 : ¬ (32 : Int) = 0 := by decide
  match b with
  | [] =>
    simp -implicitDefEqProofs only [B60, hc0, g01, go_sem, reduceIte, Nat.reduceEqDiff, Nat.reduceAdd, Nat.reduceLeDiff, Nat.reduceLT, decide_true, decide_false, vc_cond2, vcGrps_guard2, vcD_val2, vcD_guard2]
    exact fun _ => ⟨rfl, hx⟩
  | [c] =>
    have h0 : (0 : Int) ≤ 0 := by decide
    have hm := tm32 c.toNat
    by_cases h31 : c.toNat % 32 = 31
    · have hg : ((c.toNat % 32 : Nat) : Int) = 31 := by omega
      simp -implicitDefEqProofs only [B60, hc1, g11, h0, hz, h320, hm, hg, go_sem, reduceIte, Nat.reduceEqDiff, Nat.reduceAdd, Nat.reduceLeDiff, Nat.reduceLT, decide_true, decide_false, vc_cond2, vcGrps_guard2, vcD_val2, vcD_guard2]
      intro _
      exact ⟨by simp [rheadS, h31, encH], hx⟩
    · have hg : ¬ ((c.toNat % 32 : Nat) : Int) = 31 := by omega
      simp -implicitDefEqProofs only [B60, hc1, g11, g12, h0, hz, h320, hm, hg, go_sem, reduceIte, Nat.reduceEqDiff, Nat.reduceAdd, Nat.reduceLeDiff, Nat.reduceLT, decide_true, decide_false, vc_cond2, vcGrps_guard2, vcD_val2, vcD_guard2]
      intro _ _
      exact ⟨by simp [rheadS, h31, encH], hx⟩
  | c :: d :: r =>
    have h0 : (0 : Int) ≤ 0 := by decide
    have h01 : (0 : Int) ≤ 1 := by decide
    have hm := tm32 c.toNat
    have hl0 : ¬ ((r.length + (1 + 1) : Nat) : Int) < 1 := by omega
    have hl0' : ¬ ((r.length + 2 : Nat) : Int) < 1 := by omega
    have hl1 : ¬ ((r.length + (1 + 1) : Nat) : Int) < 2 := by omega
    have hl1' : ¬ ((r.length + 2 : Nat) : Int) < 2 := by omega
    by_cases h31 : c.toNat % 32 = 31
    · have hg : ((c.toNat % 32 : Nat) : Int) = 31 := by omega
      simp -implicitDefEqProofs only [B60, hl0, hl0', h0, hz, h320, hm, hg, go_sem, reduceIte, Nat.reduceEqDiff, Nat.reduceAdd, Nat.reduceLeDiff, Nat.reduceLT, decide_true, decide_false, vc_cond2, vcGrps_guard2, vcD_val2, vcD_guard2]
      intro _
      exact ⟨by simp [rheadS, h31, encH], hx⟩
    have hg : ¬ ((c.toNat % 32 : Nat) : Int) = 31 := by omega
    have hwd : IntKind.i64.wrap (d.toNat : Int) = d.toNat := w64 _ (by omega) (by have := d.toNat_lt; omega)
    by_cases hd : d.toNat < 128
    · have hd' : (d.toNat : Int) < 128 := by omega
      simp -implicitDefEqProofs only [B60, hl0, hl0', hl1, hl1', h0, h01, hz, hz1, h320, hm, hg, hd', hwd, saysAll, addPend, go_sem, reduceIte, Nat.reduceEqDiff, Nat.reduceAdd, Nat.reduceLeDiff, Nat.reduceLT, decide_true, decide_false, vc_cond2, vcGrps_guard2, vcD_val2, vcD_guard2]
      intro _ _
      refine ⟨?_, hx⟩
      rw [rheadS, if_neg h31, if_pos hd]; rfl
    have hd' : ¬ (d.toNat : Int) < 128 := by omega
    obtain ⟨n, hn⟩ : ∃ n, n = d.toNat - 128 := ⟨_, rfl⟩
    have hdl := d.toNat_lt
    have hws : IntKind.i64.wrap ((d.toNat : Int) - 128) = (n : Nat) := by rw [w64 _ (by omega) (by omega)]; omega
    have hw2 : IntKind.i64.wrap (2 + (n : Int)) = ((2 + n : Nat) : Int) := by rw [w64 _ (by omega) (by omega)]; omega
    by_cases hn1 : d.toNat < 129 ∨ d.toNat > 132
    · have hr : rheadS (c :: d :: r) = (0, 0, 22) := by rw [rheadS, if_neg h31, if_neg hd, if_pos hn1]
      rw [hr]
      by_cases hn0 : (n : Int) < 1
      · simp -implicitDefEqProofs only [B60, hl0, hl0', hl1, hl1', h0, h01, hz, hz1, h320, hm, hg, hd', hwd, hws, hn0, go_sem, reduceIte, Nat.reduceEqDiff, Nat.reduceAdd, Nat.reduceLeDiff, Nat.reduceLT, decide_true, decide_false, vc_cond2, vcGrps_guard2, vcD_val2, vcD_guard2]
        intro _ _
        exact ⟨rfl, hx⟩
      · have hn4 : (n : Int) > 4 := by omega
        simp -implicitDefEqProofs only [B60, hl0, hl0', hl1, hl1', h0, h01, hz, hz1, h320, hm, hg, hd', hwd, hws, hn0, hn4, go_sem, reduceIte, Nat.reduceEqDiff, Nat.reduceAdd, Nat.reduceLeDiff, Nat.reduceLT, decide_true, decide_false, vc_cond2, vcGrps_guard2, vcD_val2, vcD_guard2]
        intro _ _
        exact ⟨rfl, hx⟩
    have hn0 : ¬ (n : Int) < 1 := by omega
    have hn4 : ¬ (n : Int) > 4 := by omega
    by_cases hrl : r.length < n
    · have hr : rheadS (c :: d :: r) = (0, 0, 20) := by rw [rheadS, if_neg h31, if_neg hd, if_neg hn1, if_pos (by omega)]
      rw [hr]
      have hl2 : ((r.length + (1 + 1) : Nat) : Int) < ((2 + n : Nat) : Int) := by omega
      have hl2' : ((r.length + 2 : Nat) : Int) < ((2 + n : Nat) : Int) := by omega
      simp -implicitDefEqProofs only [B60, hl0, hl0', hl1, hl1', h0, h01, hz, hz1, h320, hm, hg, hd', hwd, hws, hn0, hn4, hw2, hl2, hl2', go_sem, reduceIte, Nat.reduceEqDiff, Nat.reduceAdd, Nat.reduceLeDiff, Nat.reduceLT, decide_true, decide_false, vc_cond2, vcGrps_guard2, vcD_val2, vcD_guard2]
      intro _ _ _
      exact ⟨rfl, hx⟩
    have hr : rheadS (c :: d :: r) = (2 + n, getS (r.take n), 0) := by rw [rheadS, if_neg h31, if_neg hd, if_neg hn1, if_neg (by omega), ← hn]
    have hl2 : ¬ ((r.length + (1 + 1) : Nat) : Int) < ((2 + n : Nat) : Int) := by omega
    have hl2' : ¬ ((r.length + 2 : Nat) : Int) < ((2 + n : Nat) : Int) := by omega
    have hlo : (0 : Int) ≤ 2 := by decide
    have hhi : (0 : Int) ≤ ((2 + n : Nat) : Int) := by omega
    have ht2 : Int.toNat 2 = 2 := rfl
    have hle1 : 2 ≤ 2 + n := by omega
    have hle2 : 2 + n ≤ r.length + (1 + 1) := by omega
    have hle2' : 2 + n ≤ r.length + 2 := by omega
    have hsl : List.drop 2 (List.take (2 + n) (c :: d :: r)) = r.take n := by
      rw [show 2 + n = n + 1 + 1 by omega]; rfl
    simp -implicitDefEqProofs only [B60, hl0, hl0', hl1, hl1', h0, h01, hz, hz1, h320, hm, hg, hd', hwd, hws, hn0, hn4, hw2, hl2, hl2', hlo, hhi, ht2, hle1, hle2, hle2', hsl, go_sem, reduceIte, Nat.reduceEqDiff, Nat.reduceAdd, Nat.reduceLeDiff, Nat.reduceLT, decide_true, decide_false, vc_cond2, vcGrps_guard2, vcD_val2, vcD_guard2]
    intro _ _ _
    have htl : (r.take n).length = n := by rw [List.length_take]; omega
    refine (c68 (r.take n) (by omega) (by omega)).use ?_
    rw [hr]
    simp -implicitDefEqProofs only [hw2, go_sem, reduceIte, Nat.reduceEqDiff, Nat.reduceAdd, Nat.reduceLeDiff, Nat.reduceLT, decide_true, decide_false, vc_cond2, vcGrps_guard2, vcD_val2, vcD_guard2]
    exact ⟨rfl, hx⟩

theorem headS_eq (b : List UInt8) : (headS b).2.2 = 0 → headS b = rheadS b ∧ (rheadS b).1 + (rheadS b).2.1 ≤ 65536 := by
  unfold headS
  split
  · intro h; cases h
  · intro _; exact ⟨rfl, by omega⟩
theorem c39 (b : List UInt8) : Pure prog 293 [.str b] (.tup [.int .i64 ((frameS b).1 : Nat), .int .i64 ((frameS b).2 : Nat)]) := by
  refine Pure.of (fun _ _ => by simp only [nm, nmL, and_self]) fun S => acalls_of_vc low39 (by simp) ?_
  have hx := Ext.refl S
  obtain ⟨h1, h2, h3, h4⟩ := rheadS_lt b
  simp -implicitDefEqProofs only [B39, go_sem, reduceIte, Nat.reduceEqDiff, Nat.reduceAdd, Nat.reduceLeDiff, Nat.reduceLT, decide_true, decide_false, vc_cond2, vcGrps_guard2, vcD_val2, vcD_guard2]
  refine (c60 b).use ?_
  unfold frameS headS
  have hw : IntKind.i64.wrap (((rheadS b).1 : Int) + ((rheadS b).2.1 : Nat)) = (((rheadS b).1 + (rheadS b).2.1 : Nat) : Int) := by rw [w64 _ (by omega) (by omega)]; omega
  by_cases he : (rheadS b).2.2 = 0
  · have he' : (((rheadS b).2.2 : Nat) : Int) = 0 := by omega
    by_cases hl : (rheadS b).1 + (rheadS b).2.1 > 65536
    · have hl' : (((rheadS b).1 + (rheadS b).2.1 : Nat) : Int) > 65536 := by omega
      rw [if_pos hl]
      simp -implicitDefEqProofs only [encH, hw, he', hl', ne_eq, not_true, go_sem, reduceIte, Nat.reduceEqDiff, Nat.reduceAdd, Nat.reduceLeDiff, Nat.reduceLT, decide_true, decide_false, vc_cond2, vcGrps_guard2, vcD_val2, vcD_guard2]
      exact ⟨rfl, hx⟩
    · have hl' : ¬ (((rheadS b).1 + (rheadS b).2.1 : Nat) : Int) > 65536 := by omega
      rw [if_neg hl, he]
      simp -implicitDefEqProofs only [encH, hw, he', hl', ne_eq, not_true, go_sem, reduceIte, Nat.reduceEqDiff, Nat.reduceAdd, Nat.reduceLeDiff, Nat.reduceLT, decide_true, decide_false, vc_cond2, vcGrps_guard2, vcD_val2, vcD_guard2]
      exact ⟨rfl, hx⟩
  · have he' : ¬ (((rheadS b).2.2 : Nat) : Int) = 0 := by omega
    obtain ⟨e1, e2⟩ := h4 he
    rw [if_neg (by omega)]
    simp -implicitDefEqProofs only [encH, he', ne_eq, not_false_eq_true, go_sem, reduceIte, Nat.reduceEqDiff, Nat.reduceAdd, Nat.reduceLeDiff, Nat.reduceLT, decide_true, decide_false, vc_cond2, vcGrps_guard2, vcD_val2, vcD_guard2]
    exact ⟨by rw [e1, e2]; rfl, hx⟩
end Go.Proofs.YtajbeippbabhhaaGreatDoor.Eng

namespace Go.Proofs.YtajbeippbabhhaaGreatDoor.Eng
open Go Go.Proofs.Tryz

/-! ## What reading tells -/
inductive RR where
  | err (n : Nat)
  | ok (x : Elem) (rest : List UInt8)
inductive KK where
  | err (n : Nat)
  | ok (ks : List Elem)
def kidsF (rd : List UInt8 → RR) : Nat → List UInt8 → KK
  | 0, _ => .ok []
  | g + 1, c => if c = [] then .ok [] else match rd c with
    | .err n => .err n
    | .ok k r => match kidsF rd g r with
      | .err n => .err n
      | .ok ks => .ok (k :: ks)
def addK (d : List Elem) : KK → KK
  | .err n => .err n
  | .ok ks => .ok (d ++ ks)
def clsB (b : List UInt8) : Nat := (b.headD 0).toNat / 64
def tagB (b : List UInt8) : Nat := (b.headD 0).toNat % 32
def consB (b : List UInt8) : Bool := decide ((b.headD 0).toNat / 32 % 2 = 1)
def contB (b : List UInt8) : List UInt8 := (b.take ((headS b).1 + (headS b).2.1)).drop (headS b).1
def restB (b : List UInt8) : List UInt8 := b.drop ((headS b).1 + (headS b).2.1)
def endK (b : List UInt8) : KK → RR
  | .err n => .err n
  | .ok ks => .ok (.mk (clsB b) (tagB b) true [] ks []) (restB b)
def readF : Nat → List UInt8 → Nat → RR
  | 0, _, _ => .err 99
  | f + 1, b, w =>
    if (headS b).2.2 ≠ 0 then .err (headS b).2.2
    else if w ≥ 20 then .err 23
    else if b.length < (headS b).1 + (headS b).2.1 then .err 20
    else if consB b = false then .ok (.mk (clsB b) (tagB b) false (contB b) [] []) (restB b)
    else endK b (kidsF (fun c => readF f c (w + 1)) (contB b).length (contB b))
def resV : RR → AEnd
  | .err n => .pan (.ifc 32 (.int .i64 (n : Nat)))
  | .ok x r => .ret (.tup [.agg (encE x), .str r])

theorem headS_two (b : List UInt8) (h : (headS b).2.2 = 0) : 2 ≤ (headS b).1 ∧ ∃ c d r, b = c :: d :: r := by
  obtain ⟨h1, h2⟩ := headS_eq b h
  rw [h1] at h ⊢
  match b with
  | [] => simp [rheadS] at h
  | [c] => simp only [rheadS] at h; split at h <;> simp at h
  | c :: d :: r =>
    refine ⟨?_, c, d, r, rfl⟩
    simp only [rheadS] at h ⊢
    split at h
    · simp at h
    rename_i h3
    rw [if_neg h3]
    split at h
    · rename_i h4; rw [if_pos h4]; simp
    rename_i h4
    rw [if_neg h4]
    split at h
    · simp at h
    rename_i h5
    rw [if_neg h5]
    split at h
    · simp at h
    rename_i h6
    rw [if_neg h6]; simp only; omega
theorem readF_ok {f : Nat} {b : List UInt8} {w : Nat} {x : Elem} {r : List UInt8} (h : readF f b w = .ok x r) : (headS b).2.2 = 0 ∧ w < 20 ∧ (headS b).1 + (headS b).2.1 ≤ b.length ∧ r = restB b ∧ r.length < b.length := by
  cases f with
  | zero => simp [readF] at h
  | succ f =>
    simp only [readF] at h
    split at h
    · cases h
    split at h
    · cases h
    split at h
    · cases h
    rename_i h1 h2 h3
    have h1' : (headS b).2.2 = 0 := by simpa using h1
    have hr : r = restB b := by
      split at h
      · cases h; rfl
      · generalize kidsF _ _ _ = kk at h
        cases kk with
        | err n => cases h
        | ok ks => simp only [endK] at h; cases h; rfl
    have := (headS_two b h1').1
    exact ⟨h1', by omega, by omega, hr, by rw [hr, restB, List.length_drop]; omega⟩
theorem contB_len (b : List UInt8) (h : (headS b).2.2 = 0) (hl : (headS b).1 + (headS b).2.1 ≤ b.length) : (contB b).length = (headS b).2.1 ∧ (contB b).length + 2 ≤ b.length ∧ (contB b).length ≤ 65536 := by
  have h2 := (headS_two b h).1
  have h3 := (headS_lt b).2.1
  have : (contB b).length = (headS b).2.1 := by rw [contB, List.length_drop, List.length_take]; omega
  exact ⟨this, by omega, by omega⟩

theorem shr6 : ∀ c : UInt8, (c.toNat : Int).fdiv (2 ^ min (Int.toNat 6) (bitsA .u8)) = ((c.toNat / 64 : Nat) : Int) := by
  have h : ∀ c : Fin 256, (c.val : Int).fdiv (2 ^ min (Int.toNat 6) (bitsA .u8)) = ((c.val / 64 : Nat) : Int) := by decide +kernel
  exact fun c => h ⟨c.toNat, c.toNat_lt⟩
theorem and32 : ∀ c : UInt8, (IntKind.u8.wrap ((BitVec.ofInt (bitsA .u8) (c.toNat : Int) &&& BitVec.ofInt (bitsA .u8) 32).toNat : Int) = 0) ↔ ¬ (c.toNat / 32 % 2 = 1) := by
  have h : ∀ c : Fin 256, (IntKind.u8.wrap ((BitVec.ofInt (bitsA .u8) (c.val : Int) &&& BitVec.ofInt (bitsA .u8) 32).toNat : Int) = 0) ↔ ¬ (c.val / 32 % 2 = 1) := by decide +kernel
  exact fun c => h ⟨c.toNat, c.toNat_lt⟩

/-- What the walk of `read` comes to, ahead of its row's being given out. -/
def readK (S : Store) (R : RR) (r : AEnd) (S' : Store) : Prop := Ext S S' ∧ match R with
  | .err n => r = .pan (.ifc 32 (.int .i64 (n : Nat)))
  | .ok x rest => (x.kids = [] ∧ x.ext = [] ∧ r = .ret (.tup [.agg [.int .i64 x.cls, .int .i64 x.tag, .bool x.cons, .str x.bytes, .lit (.slice none 0 0)], .str rest])) ∨
      ∃ k, S.n ≤ k ∧ x.ext = [] ∧ r = .ret (.tup [.agg [.int .i64 x.cls, .int .i64 x.tag, .bool x.cons, .str x.bytes, .own k 0 x.kids.length], .str rest]) ∧ S'.get k = some (.row 68 5 0 (encEs x.kids))

/-- No names stand in it. -/
def bare (x : Elem) : Prop := ∀ n, nmL n (encE x)
theorem read_out {P : Program} {f : FuncId} {args : List AV} {S : Store} {R : RR} (hb : ∀ x r, R = .ok x r → bare x) (h : ACalls P f args S (readK S R)) : ACalls P f args S fun r S' => r = resV R ∧ S' = S := by
  cases R with
  | err n => exact h.back fun r S' ⟨h1, h2⟩ => ⟨h1, by rw [h2]; simp only [AEnd.val, nm], h2, rfl⟩
  | ok x rest =>
    have hbx := hb x rest rfl
    refine ACalls.wf fun hwf _ => h.turn fun r S' ⟨h1, h2⟩ => ?_
    have hreset : ∀ (T : Store) (v : AV), Ext S T → nm S.n v → Turn S.n [v] T [v] S := fun T v hE hn => Turn.reset hE.n (Nat.le_refl _) (fun l o e => by
      obtain ⟨a1, a2⟩ := hwf l o e
      exact ⟨by rw [hE.get l a1]; exact e, a1, a2⟩) (by simp only [nmL]; exact ⟨hn, trivial⟩)
    have hn : nm S.n (.tup [.agg (encE x), .str rest]) := by simp only [nm, nmL, and_true]; exact hbx _
    refine ⟨.tup [.agg (encE x), .str rest], S, ?_, ?_⟩
    rotate_left
    · rcases h2 with ⟨_, _, rfl⟩ | ⟨k, _, _, rfl, _⟩ <;> exact ⟨rfl, rfl⟩
    rcases h2 with ⟨h3, h4, rfl⟩ | ⟨k, hk, h4, rfl, hrow⟩
    · refine Turn.trans (Turn.weak (vs' := [.tup [.agg (encE x), .str rest]]) (.cons (Wk.tup (.cons (Wk.agg ?_) (.cons (Wk.refl _) .nil))) .nil)) (hreset _ _ h1 hn)
      rw [encE_eta, h3, h4]
      exact .cons (Wk.refl _) (.cons (Wk.refl _) (.cons (Wk.refl _) (.cons (Wk.refl _) (.cons (Wk.nil 5) .nil))))
    · have hv : fzL k 5 (encEs x.kids) [.tup [.agg [.int .i64 x.cls, .int .i64 x.tag, .bool x.cons, .str x.bytes, .own k 0 x.kids.length], .str rest]] = [.tup [.agg (encE x), .str rest]] := by
        rw [encE_eta, h4]; simp [fzL, fz]
      have t1 := Turn.freeze (n0 := S.n) (vs := [.tup [.agg [.int .i64 x.cls, .int .i64 x.tag, .bool x.cons, .str x.bytes, .own k 0 x.kids.length], .str rest]]) hrow (by
        simp only [fzOkL, fzOk, and_true, true_and, encEs_length]; intro _; omega)
      rw [hv] at t1
      exact Turn.trans t1 (hreset _ _ (h1.set _ _ hk) hn)
end Go.Proofs.YtajbeippbabhhaaGreatDoor.Eng

namespace Go.Proofs.YtajbeippbabhhaaGreatDoor.Eng
open Go Go.Proofs.Tryz

theorem bare_kids {ks : List Elem} (h : ∀ k ∈ ks, bare k) (n : Nat) : nmLL n (encEs ks) := by
  induction ks with
  | nil => simp only [encEs, nmLL]
  | cons k ks ih => simp only [encEs, nmLL]; exact ⟨h k (by simp) n, ih fun x hx => h x (by simp [hx])⟩
theorem bare_mk {c t : Int} {k : Bool} {b : List UInt8} {ks : List Elem} (h : ∀ k ∈ ks, bare k) : bare (.mk c t k b ks []) := fun n => by
  simp only [encE, nmL, nm, and_true, true_and, List.append_nil]; exact bare_kids h n
theorem kidsF_all {p : Elem → Prop} {rd : List UInt8 → RR} (h : ∀ c x r, rd c = .ok x r → p x) : ∀ (g : Nat) (c : List UInt8) (ks : List Elem), kidsF rd g c = .ok ks → ∀ k ∈ ks, p k
  | 0, c, ks, hk => by simp only [kidsF] at hk; cases hk; simp
  | g + 1, c, ks, hk => by
    simp only [kidsF] at hk
    split at hk
    · cases hk; simp
    · split at hk
      · cases hk
      · rename_i k r hr
        split at hk
        · cases hk
        · rename_i ks' hks
          cases hk
          intro x hx
          rcases List.mem_cons.1 hx with rfl | hx
          · exact h _ _ _ hr
          · exact kidsF_all h g r ks' hks x hx
theorem readF_bare : ∀ (f : Nat) (b : List UInt8) (w : Nat) (x : Elem) (r : List UInt8), readF f b w = .ok x r → bare x
  | 0, b, w, x, r, h => by simp [readF] at h
  | f + 1, b, w, x, r, h => by
    simp only [readF] at h
    split at h
    · cases h
    split at h
    · cases h
    split at h
    · cases h
    split at h
    · cases h; exact bare_mk (by simp)
    · generalize hk : kidsF _ _ _ = kk at h
      cases kk with
      | err n => cases h
      | ok ks =>
        simp only [endK] at h; cases h
        exact bare_mk (kidsF_all (fun c x r hc => readF_bare f c (w + 1) x r hc) _ _ _ hk)

def Z5 : List AV := [.int .i64 0, .int .i64 0, .bool false, .str [], .lit (.slice none 0 0)]

theorem c62 (f : Nat) : ∀ (b : List UInt8) (w : Nat), b.length < f → w ≤ 20 → ∀ S, ACalls prog 145 [.str b, .int .i64 w] S fun r S' => r = resV (readF f b w) ∧ S' = S := by
  induction f with
  | zero => intro b w h; omega
  | succ f ih =>
  intro b w hf hw S
  refine read_out (fun x r h => readF_bare _ _ _ _ _ h) (acalls_of_vc low62 (by simp) ?_)
  obtain ⟨hd1, hd2, hd3, hd4⟩ := headS_lt b
  unfold B62
  refine vc_cut (fun fr T => fr 0 = .str b ∧ fr 1 = .int .i64 w ∧ fr 4 = .ptr S.n 0 ∧ S.push (.box 68 Z5) = T) (by simp -implicitDefEqProofs only [go_sem, reduceIte, Nat.reduceEqDiff, Nat.reduceAdd, Nat.reduceLeDiff, Nat.reduceLT, decide_true, decide_false, vc_cond2, vcGrps_guard2, vcD_val2, vcD_guard2]; rfl) ?_
  rintro fr T ⟨f0, f1, f4, rfl⟩
  refine vc_cut (fun fr T => fr 0 = .str b ∧ fr 1 = .int .i64 w ∧ fr 4 = .ptr S.n 0 ∧ S.push (.box 68 Z5) = T ∧ fr 6 = .int .i64 ((headS b).1 : Nat) ∧ fr 7 = .int .i64 ((headS b).2.1 : Nat) ∧ fr 8 = .int .i64 ((headS b).2.2 : Nat)) ?_ ?_
  · simp -implicitDefEqProofs only [f0, f1, f4, go_sem, reduceIte, Nat.reduceEqDiff, Nat.reduceAdd, Nat.reduceLeDiff, Nat.reduceLT, decide_true, decide_false, vc_cond2, vcGrps_guard2, vcD_val2, vcD_guard2]
    refine (c52 b).use ?_
    simp -implicitDefEqProofs only [f0, f1, f4, encH, go_sem, reduceIte, Nat.reduceEqDiff, Nat.reduceAdd, Nat.reduceLeDiff, Nat.reduceLT, decide_true, decide_false, vc_cond2, vcGrps_guard2, vcD_val2, vcD_guard2]
  clear f0 f1 f4 fr
  rintro fr T ⟨f0, f1, f4, rfl, f6, f7, f8⟩
  have hE1 := (Ext.refl S).push (.box 68 Z5)
  have hwn : IntKind.i64.wrap (((headS b).1 : Int) + ((headS b).2.1 : Nat)) = (((headS b).1 + (headS b).2.1 : Nat) : Int) := by rw [w64 _ (by omega) (by omega)]; omega
  refine vc_cut (fun fr T => fr 0 = .str b ∧ fr 1 = .int .i64 w ∧ fr 4 = .ptr S.n 0 ∧ S.push (.box 68 Z5) = T ∧ fr 6 = .int .i64 ((headS b).1 : Nat) ∧ fr 7 = .int .i64 ((headS b).2.1 : Nat) ∧ (headS b).2.2 = 0 ∧ w < 20 ∧ (headS b).1 + (headS b).2.1 ≤ b.length) ?_ ?_
  · by_cases he : (headS b).2.2 = 0
    rotate_left
    · have he' : ¬ (((headS b).2.2 : Nat) : Int) = 0 := by omega
      simp -implicitDefEqProofs only [f0, f1, f4, f6, f7, f8, he', ne_eq, not_false_eq_true, Qcut_pan, Qend, go_sem, reduceIte, Nat.reduceEqDiff, Nat.reduceAdd, Nat.reduceLeDiff, Nat.reduceLT, decide_true, decide_false, vc_cond2, vcGrps_guard2, vcD_val2, vcD_guard2]
      exact ⟨hE1, by simp only [readF, if_pos he]⟩
    have he' : (((headS b).2.2 : Nat) : Int) = 0 := by omega
    have he2 : ¬ (headS b).2.2 ≠ 0 := by omega
    by_cases hw2 : w ≥ 20
    · have hw' : (w : Int) ≥ 20 := by omega
      simp -implicitDefEqProofs only [f0, f1, f4, f6, f7, f8, he', hw', ne_eq, not_true, not_false_eq_true, Qcut_pan, Qend, go_sem, reduceIte, Nat.reduceEqDiff, Nat.reduceAdd, Nat.reduceLeDiff, Nat.reduceLT, decide_true, decide_false, vc_cond2, vcGrps_guard2, vcD_val2, vcD_guard2]
      exact ⟨hE1, by simp only [readF, if_neg he2, if_pos hw2]; rfl⟩
    have hw' : ¬ (w : Int) ≥ 20 := by omega
    by_cases hl : b.length < (headS b).1 + (headS b).2.1
    · have hl' : (b.length : Int) < (((headS b).1 + (headS b).2.1 : Nat) : Int) := by omega
      simp -implicitDefEqProofs only [f0, f1, f4, f6, f7, f8, he', hw', hwn, hl', ne_eq, not_true, not_false_eq_true, Qcut_pan, Qend, go_sem, reduceIte, Nat.reduceEqDiff, Nat.reduceAdd, Nat.reduceLeDiff, Nat.reduceLT, decide_true, decide_false, vc_cond2, vcGrps_guard2, vcD_val2, vcD_guard2]
      exact fun _ => ⟨hE1, by simp only [readF, if_neg he2, if_neg hw2, if_pos hl]; rfl⟩
    have hl' : ¬ (b.length : Int) < (((headS b).1 + (headS b).2.1 : Nat) : Int) := by omega
    simp -implicitDefEqProofs only [f0, f1, f4, f6, f7, f8, he', hw', hwn, hl', ne_eq, not_true, not_false_eq_true, Qcut_pan, Qend, go_sem, reduceIte, Nat.reduceEqDiff, Nat.reduceAdd, Nat.reduceLeDiff, Nat.reduceLT, decide_true, decide_false, vc_cond2, vcGrps_guard2, vcD_val2, vcD_guard2]
    exact fun _ => ⟨he, by omega, by omega⟩
  clear f0 f1 f4 f6 f7 f8 fr
  rintro fr T ⟨f0, f1, f4, rfl, f6, f7, he, hw20, hl⟩
  have he2 : ¬ (headS b).2.2 ≠ 0 := by omega
  have hw2 : ¬ w ≥ 20 := by omega
  have hl2 : ¬ b.length < (headS b).1 + (headS b).2.1 := by omega
  obtain ⟨hn2, hc⟩ := headS_two b he
  obtain ⟨cl1, cl2, cl3⟩ := contB_len b he hl
  -- the element's head
  refine vc_cut (fun fr T => fr 0 = .str b ∧ fr 1 = .int .i64 w ∧ fr 4 = .ptr S.n 0 ∧ fr 6 = .int .i64 ((headS b).1 : Nat) ∧ fr 7 = .int .i64 ((headS b).2.1 : Nat) ∧ fr 9 = .ptr (S.n + 1) 0 ∧ Ext S T ∧ T.n = S.n + 2 ∧
    T.get S.n = some (.box 68 Z5) ∧ T.get (S.n + 1) = some (.box 68 [.int .i64 (clsB b), .int .i64 (tagB b), .bool (consB b), .str [], .lit (.slice none 0 0)])) ?_ ?_
  · obtain ⟨c, d, r, hb⟩ := hc
    have hb0 : b[Int.toNat 0]? = some c := by rw [hb]; rfl
    have h00 : (0 : Int) ≤ 0 := by decide
    have h06 : ¬ (6 : Int) < 0 := by decide
    have a1 := shr6 c
    have a2 := and31 c
    have hcl : clsB b = c.toNat / 64 := by rw [hb]; rfl
    have htg : tagB b = c.toNat % 32 := by rw [hb]; rfl
    have hco : consB b = decide (c.toNat / 32 % 2 = 1) := by rw [hb]; rfl
    have hcb := c.toNat_lt
    have w1 : IntKind.i64.wrap ((c.toNat / 64 : Nat) : Int) = ((c.toNat / 64 : Nat) : Int) := w64 _ (by omega) (by omega)
    have w2 : IntKind.i64.wrap ((c.toNat % 32 : Nat) : Int) = ((c.toNat % 32 : Nat) : Int) := w64 _ (by omega) (by omega)
    rw [hcl, htg, hco]
    by_cases hc32 : c.toNat / 32 % 2 = 1
    · have a3 : ¬ IntKind.u8.wrap ((BitVec.ofInt (bitsA .u8) (c.toNat : Int) &&& BitVec.ofInt (bitsA .u8) 32).toNat : Int) = 0 := fun h => (and32 c).1 h hc32
      simp -implicitDefEqProofs only [f0, f1, f4, f6, f7, ashift, hb0, h00, h06, a1, a2, a3, w1, w2, hc32, ne_eq, not_false_eq_true, Says, pendAll, pendNext, addPend, saysAll, splice, vcDEff, go_sem, reduceIte, Nat.reduceEqDiff, Nat.reduceAdd, Nat.reduceLeDiff, Nat.reduceLT, decide_true, decide_false, vc_cond2, vcGrps_guard2, vcD_val2, vcD_guard2]
      exact (hE1.push _).set _ _ (by omega)
    · have a3 : IntKind.u8.wrap ((BitVec.ofInt (bitsA .u8) (c.toNat : Int) &&& BitVec.ofInt (bitsA .u8) 32).toNat : Int) = 0 := (and32 c).2 hc32
      simp -implicitDefEqProofs only [f0, f1, f4, f6, f7, ashift, hb0, h00, h06, a1, a2, a3, w1, w2, hc32, ne_eq, not_true, not_false_eq_true, Says, pendAll, pendNext, addPend, saysAll, splice, vcDEff, go_sem, reduceIte, Nat.reduceEqDiff, Nat.reduceAdd, Nat.reduceLeDiff, Nat.reduceLT, decide_true, decide_false, vc_cond2, vcGrps_guard2, vcD_val2, vcD_guard2]
      exact (hE1.push _).set _ _ (by omega)
  clear f0 f1 f4 f6 f7 fr hE1
  rintro fr T ⟨f0, f1, f4, f6, f7, f9, hE, hTn, hg4, hg9⟩
  -- its content
  have p0 : (0 : Int) ≤ ((headS b).1 : Nat) := by omega
  have p1 : (0 : Int) ≤ (((headS b).1 + (headS b).2.1 : Nat) : Int) := by omega
  have p2 : (headS b).1 ≤ (headS b).1 + (headS b).2.1 := by omega
  have hsl : List.drop (headS b).1 (List.take ((headS b).1 + (headS b).2.1) b) = contB b := rfl
  have hrs : List.drop ((headS b).1 + (headS b).2.1) (List.take b.length b) = restB b := by rw [List.take_length]; rfl
  refine vc_cut (fun fr U => fr 0 = .str b ∧ fr 1 = .int .i64 w ∧ fr 4 = .ptr S.n 0 ∧ fr 6 = .int .i64 ((headS b).1 : Nat) ∧ fr 7 = .int .i64 ((headS b).2.1 : Nat) ∧ fr 9 = .ptr (S.n + 1) 0 ∧ fr 10 = .str (contB b) ∧ T = U) ?_ ?_
  · simp -implicitDefEqProofs only [f0, f1, f4, f6, f7, f9, hwn, p0, p1, p2, hl, hsl, go_sem, reduceIte, Nat.reduceEqDiff, Nat.reduceAdd, Nat.reduceLeDiff, Nat.reduceLT, decide_true, decide_false, vc_cond2, vcGrps_guard2, vcD_val2, vcD_guard2]
  clear f0 f1 f4 f6 f7 f9 fr
  rintro fr U ⟨f0, f1, f4, f6, f7, f9, f10, rfl⟩
  -- an element that holds none
  refine vc_cut (fun fr U => fr 0 = .str b ∧ fr 1 = .int .i64 w ∧ fr 4 = .ptr S.n 0 ∧ fr 6 = .int .i64 ((headS b).1 : Nat) ∧ fr 7 = .int .i64 ((headS b).2.1 : Nat) ∧ fr 9 = .ptr (S.n + 1) 0 ∧ fr 10 = .str (contB b) ∧ T = U ∧ consB b = true) ?_ ?_
  · cases hco : consB b
    rotate_left
    · rw [hco] at hg9
      simp -implicitDefEqProofs only [f0, f1, f4, f6, f7, f9, f10, hg4, hg9, go_sem, reduceIte, Nat.reduceEqDiff, Nat.reduceAdd, Nat.reduceLeDiff, Nat.reduceLT, decide_true, decide_false, vc_cond2, vcGrps_guard2, vcD_val2, vcD_guard2]
    · rw [hco] at hg9
      have h01 : ¬ S.n = S.n + 1 := by omega
      simp -implicitDefEqProofs only [f0, f1, f4, f6, f7, f9, f10, hg4, hg9, go_sem, reduceIte, Nat.reduceEqDiff, Nat.reduceAdd, Nat.reduceLeDiff, Nat.reduceLT, decide_true, decide_false, vc_cond2, vcGrps_guard2, vcD_val2, vcD_guard2]
      refine (c69 (contB b) (by omega)).use ?_
      simp -implicitDefEqProofs only [f0, f1, f4, f6, f7, f9, f10, hg4, hg9, hwn, p0, p1, hl, hrs, h01, Nat.le_refl, Says, pendAll, pendNext, addPend, saysAll, splice, vcDEff, Z5, Qcut_ret, Qend, go_sem, reduceIte, Nat.reduceEqDiff, Nat.reduceAdd, Nat.reduceLeDiff, Nat.reduceLT, decide_true, decide_false, vc_cond2, vcGrps_guard2, vcD_val2, vcD_guard2]
      refine ⟨(hE.set _ _ (by omega)).set _ _ (by omega), ?_⟩
      simp only [readF, if_neg he2, if_neg hw2, if_neg hl2, hco, if_true]
      exact .inl ⟨rfl, rfl, rfl⟩
  clear f0 f1 f4 f6 f7 f9 f10 fr
  rintro fr U ⟨f0, f1, f4, f6, f7, f9, f10, rfl, hco⟩
  have hR : readF (f + 1) b w = endK b (kidsF (fun c => readF f c (w + 1)) (contB b).length (contB b)) := by
    simp only [readF, if_neg he2, if_neg hw2, if_neg hl2, hco]; rfl
  rw [hR]
  rw [hco] at hg9
  generalize hkk : kidsF (fun c => readF f c (w + 1)) (contB b).length (contB b) = kk
  have hwp : IntKind.i64.wrap ((w : Int) + 1) = ((w + 1 : Nat) : Int) := by rw [w64 _ (by omega) (by omega)]; omega
  rw [vc_seq, vc_block]
  refine vc_loop (fun g fr U => ∃ (c : List UInt8) (done : List Elem), fr 0 = .str b ∧ fr 1 = .int .i64 w ∧ fr 4 = .ptr S.n 0 ∧ fr 6 = .int .i64 ((headS b).1 : Nat) ∧ fr 7 = .int .i64 ((headS b).2.1 : Nat) ∧ fr 9 = .ptr (S.n + 1) 0 ∧ fr 10 = .str c ∧
    c.length ≤ g ∧ done.length + c.length ≤ (contB b).length ∧ kk = addK done (kidsF (fun c => readF f c (w + 1)) g c) ∧ Ext S U ∧ S.n + 2 ≤ U.n ∧ U.get S.n = some (.box 68 Z5) ∧
    ((done = [] ∧ U.get (S.n + 1) = some (.box 68 [.int .i64 (clsB b), .int .i64 (tagB b), .bool true, .str [], .lit (.slice none 0 0)])) ∨
      ∃ k, S.n + 2 ≤ k ∧ k < U.n ∧ U.get (S.n + 1) = some (.box 68 [.int .i64 (clsB b), .int .i64 (tagB b), .bool true, .str [], .own k 0 done.length]) ∧ U.get k = some (.row 68 5 0 (encEs done)))) (contB b).length
    ⟨contB b, [], f0, f1, f4, f6, f7, f9, f10, Nat.le_refl _, by simp, by rw [hkk]; cases kk <;> rfl, hE, by omega, hg4, .inl ⟨rfl, hg9⟩⟩ ?_
  clear f0 f1 f4 f6 f7 f9 f10 fr hE hg4 hg9 hTn T
  rintro g fr U ⟨c, done, f0, f1, f4, f6, f7, f9, f10, hcg, hdl, hkd, hE, hUn, hg4, hrow⟩
  by_cases hc0 : c = []
  · -- all is read
    subst hc0
    have hkk2 : kk = .ok done := by
      rw [hkd]
      have : kidsF (fun c => readF f c (w + 1)) g [] = .ok [] := by cases g <;> simp [kidsF]
      rw [this]; simp [addK]
    rw [hkk2]
    have h01 : ¬ S.n = S.n + 1 := by omega
    rcases hrow with ⟨rfl, hg9⟩ | ⟨k, hk, hkU, hg9, hrow⟩
    · simp -implicitDefEqProofs only [f0, f1, f4, f6, f7, f9, f10, hg4, hg9, hwn, p0, p1, hl, hrs, h01, Nat.le_refl, Says, pendAll, pendNext, addPend, saysAll, splice, vcDEff, Z5, ne_eq, not_true, Qend, go_sem, reduceIte, Nat.reduceEqDiff, Nat.reduceAdd, Nat.reduceLeDiff, Nat.reduceLT, decide_true, decide_false, vc_cond2, vcGrps_guard2, vcD_val2, vcD_guard2]
      exact ⟨hE.set _ _ (by omega), .inl ⟨rfl, rfl, rfl⟩⟩
    · have hk1 : ¬ k = S.n := by omega
      simp -implicitDefEqProofs only [f0, f1, f4, f6, f7, f9, f10, hg4, hg9, hwn, p0, p1, hl, hrs, h01, Nat.le_refl, Says, pendAll, pendNext, addPend, saysAll, splice, vcDEff, Z5, ne_eq, not_true, Qend, go_sem, reduceIte, Nat.reduceEqDiff, Nat.reduceAdd, Nat.reduceLeDiff, Nat.reduceLT, decide_true, decide_false, vc_cond2, vcGrps_guard2, vcD_val2, vcD_guard2]
      exact ⟨hE.set _ _ (by omega), .inr ⟨k, by omega, rfl, rfl, by rw [Store.get_set_ne _ _ hk1]; exact hrow⟩⟩
  · -- one more
    obtain ⟨g, rfl⟩ : ∃ g', g = g' + 1 := ⟨g - 1, by have := List.length_pos_iff.2 hc0; omega⟩
    simp -implicitDefEqProofs only [f0, f1, f4, f6, f7, f9, f10, hc0, hwp, ne_eq, not_false_eq_true, go_sem, reduceIte, Nat.reduceEqDiff, Nat.reduceAdd, Nat.reduceLeDiff, Nat.reduceLT, decide_true, decide_false, vc_cond2, vcGrps_guard2, vcD_val2, vcD_guard2]
    refine (ih c (w + 1) (by omega) (by omega) _).mono ?_
    rintro r U2 ⟨rfl, rfl⟩
    simp only [kidsF, if_neg hc0] at hkd
    have hU1 : ¬ S.n + 1 = U.n := by omega
    have hU0 : ¬ S.n = U.n := by omega
    have hU2 : ¬ S.n = U.n + 1 := by omega
    cases hrd : readF f c (w + 1) with
    | err n =>
      rw [hrd] at hkd
      simp only [addK] at hkd
      rw [hkd]
      simp -implicitDefEqProofs only [resV, Qend, go_sem, reduceIte, Nat.reduceEqDiff, Nat.reduceAdd, Nat.reduceLeDiff, Nat.reduceLT, decide_true, decide_false, vc_cond2, vcGrps_guard2, vcD_val2, vcD_guard2]
      exact ⟨hE.push _, rfl⟩
    | ok x rest =>
      rw [hrd] at hkd
      obtain ⟨_, _, _, _, hrl⟩ := readF_ok hrd
      have hadd : addK done (match kidsF (fun c => readF f c (w + 1)) g rest with | .err n => .err n | .ok ks => .ok (x :: ks)) = addK (done ++ [x]) (kidsF (fun c => readF f c (w + 1)) g rest) := by
        cases kidsF (fun c => readF f c (w + 1)) g rest <;> simp [addK]
      have hkd' := hkd.trans hadd
      have hxd : (encE x).length = 5 := encE_length x
      rcases hrow with ⟨rfl, hg9⟩ | ⟨k, hk, hkU, hg9, hrow⟩
      · simp -implicitDefEqProofs only [resV, f0, f1, f4, f6, f7, f9, f10, hg9, hU0, hU1, hU2, encE_length, encE_take5, splice_encE, splice, go_sem, reduceIte, Nat.reduceEqDiff, Nat.reduceAdd, Nat.reduceLeDiff, Nat.reduceLT, decide_true, decide_false, vc_cond2, vcGrps_guard2, vcD_val2, vcD_guard2]
        refine ⟨by omega, g, by omega, rest, [x], rfl, by omega, by simp at hdl ⊢; omega, hkd', (((hE.push _).set _ _ hE.n).push _).set _ _ (by omega), by omega, hg4, .inr ⟨U.n + 1, by omega, by omega, rfl, ?_⟩⟩
        rw [if_neg (by omega), if_pos rfl]; rfl
      · have hk1 : ¬ k = U.n := by omega
        have hk2 : ¬ k = U.n + 1 := by omega
        have hk3 : ¬ S.n + 1 = k := by omega
        have hk4 : ¬ S.n = k := by omega
        simp -implicitDefEqProofs only [resV, f0, f1, f4, f6, f7, f9, f10, hg9, hrow, hU0, hU1, hU2, hk1, hk2, hk3, hk4, encEs_length, encE_length, encE_take5, splice_encE, splice, go_sem, reduceIte, Nat.reduceEqDiff, Nat.reduceAdd, Nat.reduceLeDiff, Nat.reduceLT, decide_true, decide_false, vc_cond2, vcGrps_guard2, vcD_val2, vcD_guard2]
        have hlx : (done ++ [x]).length = done.length + 1 := by simp
        refine ⟨by omega, g, by omega, rest, done ++ [x], rfl, by omega, by rw [hlx]; omega, hkd', ((((hE.push _).set _ _ hE.n).set _ _ (by omega)).push _).set _ _ (by omega), by omega, hg4, .inr ⟨U.n + 1, by omega, by omega, by rw [hlx], ?_⟩⟩
        rw [if_neg (by omega), if_pos rfl, encEs_app]; rfl
end Go.Proofs.YtajbeippbabhhaaGreatDoor.Eng

namespace Go.Proofs.YtajbeippbabhhaaGreatDoor.Eng
open Go Go.Proofs.Tryz

/-- A value is told that stands for `v`, or a row of one's own with it. -/
def outK (S : Store) (v : AV) (r : AEnd) (S' : Store) : Prop := Ext S S' ∧ ((∃ v0, r = .ret v0 ∧ Wk v0 v) ∨
  ∃ (k t s frz : Nat) (es : List (List AV)) (v0 : AV), S.n ≤ k ∧ r = .ret v0 ∧ S'.get k = some (.row t s frz es) ∧ fzOk k es.length v0 ∧ fz k s es v0 = v)
theorem Pure.out {P : Program} {f : FuncId} {args : List AV} {v : AV} (hn : ∀ n, nm n v) (h : ∀ S, ACalls P f args S (outK S v)) : Pure P f args v := fun S => by
  refine ACalls.wf fun hwf _ => (h S).turn fun r S' ⟨h1, h2⟩ => ?_
  have hreset : ∀ (T : Store), Ext S T → Turn S.n [v] T [v] S := fun T hE => Turn.reset hE.n (Nat.le_refl _) (fun l o e => by
    obtain ⟨a1, a2⟩ := hwf l o e
    exact ⟨by rw [hE.get l a1]; exact e, a1, a2⟩) (by simp only [nmL]; exact ⟨hn _, trivial⟩)
  refine ⟨v, S, ?_, ?_⟩
  rotate_left
  · rcases h2 with ⟨v0, rfl, _⟩ | ⟨k, t, s, frz, es, v0, _, rfl, _⟩ <;> exact ⟨rfl, rfl⟩
  rcases h2 with ⟨v0, rfl, hw⟩ | ⟨k, t, s, frz, es, v0, hk, rfl, hrow, hok, hv⟩
  · exact Turn.trans (Turn.weak (.cons hw .nil)) (hreset _ h1)
  · have t1 := Turn.freeze (n0 := S.n) (vs := [v0]) hrow (by simp only [fzOkL, and_true]; exact hok)
    simp only [fzL, hv] at t1
    exact Turn.trans t1 (hreset _ (h1.set _ _ hk))

theorem kidsF_err {rd : List UInt8 → RR} (h : ∀ c n, rd c = .err n → n ≠ 0 ∧ n < 100) : ∀ (g : Nat) (c : List UInt8) (n : Nat), kidsF rd g c = .err n → n ≠ 0 ∧ n < 100
  | 0, c, n, hk => by simp [kidsF] at hk
  | g + 1, c, n, hk => by
    simp only [kidsF] at hk
    split at hk
    · cases hk
    · split at hk
      · rename_i e he; cases hk; exact h _ _ he
      · split at hk
        · rename_i e he; cases hk; exact kidsF_err h g _ _ he
        · cases hk
theorem readF_err : ∀ (f : Nat) (b : List UInt8) (w : Nat) (n : Nat), readF f b w = .err n → n ≠ 0 ∧ n < 100
  | 0, b, w, n, h => by simp only [readF] at h; cases h; omega
  | f + 1, b, w, n, h => by
    simp only [readF] at h
    split at h
    · rename_i h1; cases h; have := (headS_lt b).2.2.1; omega
    split at h
    · cases h; omega
    split at h
    · cases h; omega
    split at h
    · cases h
    · generalize hk : kidsF _ _ _ = kk at h
      cases kk with
      | err e => simp only [endK] at h; cases h; exact kidsF_err (fun c n hc => readF_err f c (w + 1) n hc) _ _ _ hk
      | ok ks => cases h

def zE : Elem := .mk 0 0 false [] [] []
def tkV (b : List UInt8) : RR → AV
  | .err n => .tup [.agg (encE zE), .int .i64 0, .int .i64 (n : Nat)]
  | .ok x r => .tup [.agg (encE x), .int .i64 ((headS b).1 + (headS b).2.1 : Nat), .int .i64 0]
theorem wk_z (n : Int) : Wk (.tup [.agg Z5, .int .i64 0, .int .i64 n]) (.tup [.agg (encE zE), .int .i64 0, .int .i64 n]) :=
  Wk.tup (.cons (Wk.agg (.cons (Wk.refl _) (.cons (Wk.refl _) (.cons (Wk.refl _) (.cons (Wk.refl _) (.cons (Wk.nil 5) .nil)))))) (WkL.refl _))
theorem tq64 (n : Nat) : (n : Int).tdiv 64 = ((n / 64 : Nat) : Int) := u8q n 64 (by omega)
theorem tq32 (n : Nat) : (n : Int).tdiv 32 = ((n / 32 : Nat) : Int) := u8q n 32 (by omega)
theorem tm2 (n : Nat) : (n : Int).tmod 2 = ((n % 2 : Nat) : Int) := u8m n 2
theorem w8n (n : Nat) (h : n < 256) : IntKind.u8.wrap (n : Int) = n := by rw [IntKind.wrap_u8]; omega

theorem c63 (f : Nat) : ∀ (b : List UInt8) (w : Nat), b.length < f → w ≤ 20 → Pure prog 195 [.str b, .int .i64 w] (tkV b (readF f b w)) := by
  induction f with
  | zero => intro b w h; omega
  | succ f ih =>
  intro b w hf hw
  refine Pure.out (fun n => by
    cases h : readF (f + 1) b w with
    | err e => simp only [tkV, nm, nmL, and_true, zE, encE, encEs, List.append_nil, nmLL]
    | ok x r => simp only [tkV, nm, nmL, and_true]; exact readF_bare _ _ _ _ _ h n) fun S => acalls_of_vc low63 (by simp) ?_
  obtain ⟨hd1, hd2, hd3, hd4⟩ := headS_lt b
  unfold B63
  refine vc_cut (fun fr T => fr 0 = .str b ∧ fr 1 = .int .i64 w ∧ fr 4 = .ptr S.n 0 ∧ S.push (.box 68 Z5) = T) (by simp -implicitDefEqProofs only [go_sem, reduceIte, Nat.reduceEqDiff, Nat.reduceAdd, Nat.reduceLeDiff, Nat.reduceLT, decide_true, decide_false, vc_cond2, vcGrps_guard2, vcD_val2, vcD_guard2]; rfl) ?_
  rintro fr T ⟨f0, f1, f4, rfl⟩
  refine vc_cut (fun fr T => fr 0 = .str b ∧ fr 1 = .int .i64 w ∧ fr 4 = .ptr S.n 0 ∧ S.push (.box 68 Z5) = T ∧ fr 7 = .int .i64 ((frameS b).1 : Nat) ∧ fr 8 = .int .i64 ((frameS b).2 : Nat)) ?_ ?_
  · simp -implicitDefEqProofs only [f0, f1, f4, go_sem, reduceIte, Nat.reduceEqDiff, Nat.reduceAdd, Nat.reduceLeDiff, Nat.reduceLT, decide_true, decide_false, vc_cond2, vcGrps_guard2, vcD_val2, vcD_guard2]
    refine (c39 b).use ?_
    simp -implicitDefEqProofs only [f0, f1, f4, go_sem, reduceIte, Nat.reduceEqDiff, Nat.reduceAdd, Nat.reduceLeDiff, Nat.reduceLT, decide_true, decide_false, vc_cond2, vcGrps_guard2, vcD_val2, vcD_guard2]
  unfold frameS
  clear f0 f1 f4 fr
  rintro fr T ⟨f0, f1, f4, rfl, f7, f8⟩
  have hE1 := (Ext.refl S).push (.box 68 Z5)
  have hg : (S.push (.box 68 Z5)).get S.n = some (.box 68 Z5) := Store.get_push_same _ _
  have hz : splice Z5 0 [.int .i64 0, .int .i64 0, .bool false, .str [], .lit (.slice none 0 0)] = Z5 := rfl
  have hZ5 : Z5.length = 5 := rfl
  -- the first error
  refine vc_cut (fun fr T => fr 0 = .str b ∧ fr 1 = .int .i64 w ∧ fr 4 = .ptr S.n 0 ∧ S.push (.box 68 Z5) = T ∧ fr 7 = .int .i64 ((headS b).1 + (headS b).2.1 : Nat) ∧ (headS b).2.2 = 0) ?_ ?_
  · by_cases he : (headS b).2.2 = 0
    · have he' : (((headS b).2.2 : Nat) : Int) = 0 := by omega
      simp -implicitDefEqProofs only [f0, f1, f4, f7, f8, he', ne_eq, not_true, not_false_eq_true, go_sem, reduceIte, Nat.reduceEqDiff, Nat.reduceAdd, Nat.reduceLeDiff, Nat.reduceLT, decide_true, decide_false, vc_cond2, vcGrps_guard2, vcD_val2, vcD_guard2]
      exact he
    · have he' : ¬ (((headS b).2.2 : Nat) : Int) = 0 := by omega
      simp -implicitDefEqProofs only [f0, f1, f4, f7, f8, he', ne_eq, not_true, not_false_eq_true, Z5, splice, Qend, Qcut_ret, go_sem, reduceIte, Nat.reduceEqDiff, Nat.reduceAdd, Nat.reduceLeDiff, Nat.reduceLT, decide_true, decide_false, vc_cond2, vcGrps_guard2, vcD_val2, vcD_guard2]
      exact ⟨hE1.set _ _ (by omega), .inl ⟨_, rfl, by simp only [readF, if_pos he]; exact wk_z _⟩⟩
  clear f0 f1 f4 f7 f8 fr
  rintro fr T ⟨f0, f1, f4, rfl, f7, he⟩
  have he2 : ¬ (headS b).2.2 ≠ 0 := by omega
  refine vc_cut (fun fr T => fr 0 = .str b ∧ fr 1 = .int .i64 w ∧ fr 4 = .ptr S.n 0 ∧ S.push (.box 68 Z5) = T ∧ fr 7 = .int .i64 ((headS b).1 + (headS b).2.1 : Nat) ∧ w < 20) ?_ ?_
  · by_cases hw2 : w ≥ 20
    · have hw' : (w : Int) ≥ 20 := by omega
      simp -implicitDefEqProofs only [f0, f1, f4, f7, hw', ne_eq, not_true, not_false_eq_true, Z5, splice, Qend, Qcut_ret, go_sem, reduceIte, Nat.reduceEqDiff, Nat.reduceAdd, Nat.reduceLeDiff, Nat.reduceLT, decide_true, decide_false, vc_cond2, vcGrps_guard2, vcD_val2, vcD_guard2]
      exact ⟨hE1.set _ _ (by omega), .inl ⟨_, rfl, by simp only [readF, if_neg he2, if_pos hw2]; exact wk_z _⟩⟩
    · have hw' : ¬ (w : Int) ≥ 20 := by omega
      simp -implicitDefEqProofs only [f0, f1, f4, f7, hw', go_sem, reduceIte, Nat.reduceEqDiff, Nat.reduceAdd, Nat.reduceLeDiff, Nat.reduceLT, decide_true, decide_false, vc_cond2, vcGrps_guard2, vcD_val2, vcD_guard2]
      omega
  clear f0 f1 f4 f7 fr
  rintro fr T ⟨f0, f1, f4, rfl, f7, hw20⟩
  have hw2 : ¬ w ≥ 20 := by omega
  refine vc_cut (fun fr T => fr 0 = .str b ∧ fr 1 = .int .i64 w ∧ fr 4 = .ptr S.n 0 ∧ S.push (.box 68 Z5) = T ∧ fr 7 = .int .i64 ((headS b).1 + (headS b).2.1 : Nat) ∧ (headS b).1 + (headS b).2.1 ≤ b.length) ?_ ?_
  · by_cases hl : b.length < (headS b).1 + (headS b).2.1
    · have hl' : (((headS b).1 + (headS b).2.1 : Nat) : Int) > b.length := by omega
      simp -implicitDefEqProofs only [f0, f1, f4, f7, hl', ne_eq, not_true, not_false_eq_true, Z5, splice, Qend, Qcut_ret, go_sem, reduceIte, Nat.reduceEqDiff, Nat.reduceAdd, Nat.reduceLeDiff, Nat.reduceLT, decide_true, decide_false, vc_cond2, vcGrps_guard2, vcD_val2, vcD_guard2]
      intro _
      exact ⟨hE1.set _ _ (by omega), .inl ⟨_, rfl, by simp only [readF, if_neg he2, if_neg hw2, if_pos hl]; exact wk_z _⟩⟩
    · have hl' : ¬ (((headS b).1 + (headS b).2.1 : Nat) : Int) > b.length := by omega
      simp -implicitDefEqProofs only [f0, f1, f4, f7, hl', go_sem, reduceIte, Nat.reduceEqDiff, Nat.reduceAdd, Nat.reduceLeDiff, Nat.reduceLT, decide_true, decide_false, vc_cond2, vcGrps_guard2, vcD_val2, vcD_guard2]
      intro _
      omega
  clear f0 f1 f4 f7 fr
  rintro fr T ⟨f0, f1, f4, rfl, f7, hl⟩
  have hl2 : ¬ b.length < (headS b).1 + (headS b).2.1 := by omega
  obtain ⟨hn2, hc⟩ := headS_two b he
  obtain ⟨cl1, cl2, cl3⟩ := contB_len b he hl
  have hrh := (headS_eq b he).1
  refine vc_cut (fun fr T => fr 0 = .str b ∧ fr 1 = .int .i64 w ∧ fr 4 = .ptr S.n 0 ∧ S.push (.box 68 Z5) = T ∧ fr 7 = .int .i64 ((headS b).1 + (headS b).2.1 : Nat) ∧ fr 9 = .int .i64 ((headS b).1 : Nat)) ?_ ?_
  · simp -implicitDefEqProofs only [f0, f1, f4, f7, go_sem, reduceIte, Nat.reduceEqDiff, Nat.reduceAdd, Nat.reduceLeDiff, Nat.reduceLT, decide_true, decide_false, vc_cond2, vcGrps_guard2, vcD_val2, vcD_guard2]
    refine (c60 b).use ?_
    rw [← hrh]
    simp -implicitDefEqProofs only [f0, f1, f4, f7, encH, go_sem, reduceIte, Nat.reduceEqDiff, Nat.reduceAdd, Nat.reduceLeDiff, Nat.reduceLT, decide_true, decide_false, vc_cond2, vcGrps_guard2, vcD_val2, vcD_guard2]
  clear f0 f1 f4 f7 fr
  rintro fr T ⟨f0, f1, f4, rfl, f7, f9⟩
  refine vc_cut (fun fr T => fr 0 = .str b ∧ fr 1 = .int .i64 w ∧ fr 4 = .ptr S.n 0 ∧ fr 7 = .int .i64 ((headS b).1 + (headS b).2.1 : Nat) ∧ fr 9 = .int .i64 ((headS b).1 : Nat) ∧ fr 12 = .ptr (S.n + 1) 0 ∧ Ext S T ∧ T.n = S.n + 2 ∧
    T.get S.n = some (.box 68 Z5) ∧ T.get (S.n + 1) = some (.box 68 [.int .i64 (clsB b), .int .i64 (tagB b), .bool (consB b), .str [], .lit (.slice none 0 0)])) ?_ ?_
  · obtain ⟨c, d, r, hb⟩ := hc
    have hb0 : b[Int.toNat 0]? = some c := by rw [hb]; rfl
    have h00 : (0 : Int) ≤ 0 := by decide
    have g64 : ¬ (64 : Int) = 0 := by decide
    have g32 : ¬ (32 : Int) = 0 := by decide
    have g2 : ¬ (2 : Int) = 0 := by decide
    have hcl : clsB b = c.toNat / 64 := by rw [hb]; rfl
    have htg : tagB b = c.toNat % 32 := by rw [hb]; rfl
    have hco : consB b = decide (c.toNat / 32 % 2 = 1) := by rw [hb]; rfl
    have hcb := c.toNat_lt
    have a1 := tq64 c.toNat
    have a2 := tm32 c.toNat
    have a3 := tq32 c.toNat
    have a4 := tm2 (c.toNat / 32)
    have b1 := w8n (c.toNat / 64) (by omega)
    have b3 := w8n (c.toNat / 32) (by omega)
    have w1 : IntKind.i64.wrap ((c.toNat / 64 : Nat) : Int) = ((c.toNat / 64 : Nat) : Int) := w64 _ (by omega) (by omega)
    have w2 : IntKind.i64.wrap ((c.toNat % 32 : Nat) : Int) = ((c.toNat % 32 : Nat) : Int) := w64 _ (by omega) (by omega)
    have hone : (((c.toNat / 32 % 2 : Nat) : Int) = 1) = (c.toNat / 32 % 2 = 1) := propext (by omega)
    rw [hcl, htg, hco]
    simp -implicitDefEqProofs only [f0, f1, f4, f7, f9, hb0, h00, g64, g32, g2, a1, a2, a3, a4, b1, b3, w1, w2, hone, Says, pendAll, pendNext, addPend, saysAll, splice, vcDEff, go_sem, reduceIte, Nat.reduceEqDiff, Nat.reduceAdd, Nat.reduceLeDiff, Nat.reduceLT, decide_true, decide_false, vc_cond2, vcGrps_guard2, vcD_val2, vcD_guard2]
    exact (hE1.push _).set _ _ (by omega)
  clear f0 f1 f4 f7 f9 fr hE1 hg
  rintro fr T ⟨f0, f1, f4, f7, f9, f12, hE, hTn, hg4, hg9⟩
  have p0 : (0 : Int) ≤ ((headS b).1 : Nat) := by omega
  have p1 : (0 : Int) ≤ (((headS b).1 + (headS b).2.1 : Nat) : Int) := by omega
  have p2 : (headS b).1 ≤ (headS b).1 + (headS b).2.1 := by omega
  have hsl : List.drop (headS b).1 (List.take ((headS b).1 + (headS b).2.1) b) = contB b := rfl
  have h01 : ¬ S.n = S.n + 1 := by omega
  -- an element that holds none
  refine vc_cut (fun fr U => fr 0 = .str b ∧ fr 1 = .int .i64 w ∧ fr 4 = .ptr S.n 0 ∧ fr 7 = .int .i64 ((headS b).1 + (headS b).2.1 : Nat) ∧ fr 9 = .int .i64 ((headS b).1 : Nat) ∧ fr 12 = .ptr (S.n + 1) 0 ∧ T = U ∧ consB b = true) ?_ ?_
  · cases hco : consB b
    rotate_left
    · rw [hco] at hg9
      simp -implicitDefEqProofs only [f0, f1, f4, f7, f9, f12, hg4, hg9, go_sem, reduceIte, Nat.reduceEqDiff, Nat.reduceAdd, Nat.reduceLeDiff, Nat.reduceLT, decide_true, decide_false, vc_cond2, vcGrps_guard2, vcD_val2, vcD_guard2]
    · rw [hco] at hg9
      simp -implicitDefEqProofs only [f0, f1, f4, f7, f9, f12, hg4, hg9, p0, p1, p2, hl, hsl, h01, splice, Z5, Qcut_ret, Qend, go_sem, reduceIte, Nat.reduceEqDiff, Nat.reduceAdd, Nat.reduceLeDiff, Nat.reduceLT, decide_true, decide_false, vc_cond2, vcGrps_guard2, vcD_val2, vcD_guard2]
      refine ⟨(hE.set _ _ (by omega)).set _ _ (by omega), .inl ⟨_, rfl, ?_⟩⟩
      simp only [readF, if_neg he2, if_neg hw2, if_neg hl2, hco, if_true, tkV, encE]
      exact Wk.tup (.cons (Wk.agg (.cons (Wk.refl _) (.cons (Wk.refl _) (.cons (Wk.refl _) (.cons (Wk.refl _) (.cons (Wk.nil 5) .nil)))))) (WkL.refl _))
  clear f0 f1 f4 f7 f9 f12 fr
  rintro fr U ⟨f0, f1, f4, f7, f9, f12, rfl, hco⟩
  have hR : readF (f + 1) b w = endK b (kidsF (fun c => readF f c (w + 1)) (contB b).length (contB b)) := by
    simp only [readF, if_neg he2, if_neg hw2, if_neg hl2, hco]; rfl
  rw [hR]
  rw [hco] at hg9
  generalize hkk : kidsF (fun c => readF f c (w + 1)) (contB b).length (contB b) = kk
  have hwp : IntKind.i64.wrap ((w : Int) + 1) = ((w + 1 : Nat) : Int) := by rw [w64 _ (by omega) (by omega)]; omega
  rw [vc_seq, vc_block]
  refine vc_loop (fun g fr U => ∃ (j : Nat) (done : List Elem), fr 0 = .str b ∧ fr 1 = .int .i64 w ∧ fr 4 = .ptr S.n 0 ∧ fr 7 = .int .i64 ((headS b).1 + (headS b).2.1 : Nat) ∧ fr 12 = .ptr (S.n + 1) 0 ∧ fr 9 = .int .i64 ((headS b).1 + j : Nat) ∧
    j ≤ (headS b).2.1 ∧ (headS b).2.1 - j ≤ g ∧ done.length ≤ j ∧ kk = addK done (kidsF (fun c => readF f c (w + 1)) g ((contB b).drop j)) ∧ Ext S U ∧ S.n + 2 ≤ U.n ∧ U.get S.n = some (.box 68 Z5) ∧
    ((done = [] ∧ U.get (S.n + 1) = some (.box 68 [.int .i64 (clsB b), .int .i64 (tagB b), .bool true, .str [], .lit (.slice none 0 0)])) ∨
      ∃ k, S.n + 2 ≤ k ∧ k < U.n ∧ U.get (S.n + 1) = some (.box 68 [.int .i64 (clsB b), .int .i64 (tagB b), .bool true, .str [], .own k 0 done.length]) ∧ U.get k = some (.row 68 5 0 (encEs done)))) (headS b).2.1
    ⟨0, [], f0, f1, f4, f7, f12, f9, by omega, by omega, by simp, by rw [← cl1, List.drop_zero, hkk]; cases kk <;> rfl, hE, by omega, hg4, .inl ⟨rfl, hg9⟩⟩ ?_
  clear f0 f1 f4 f7 f9 f12 fr hE hg4 hg9 hTn T
  rintro g fr U ⟨j, done, f0, f1, f4, f7, f12, f9, hjm, hcg, hdl, hkd, hE, hUn, hg4, hrow⟩
  by_cases hc0 : j = (headS b).2.1
  · -- all is read
    subst hc0
    have hkk2 : kk = .ok done := by
      rw [hkd, List.drop_eq_nil_of_le (by omega)]
      have : kidsF (fun c => readF f c (w + 1)) g [] = .ok [] := by cases g <;> simp [kidsF]
      rw [this]; simp [addK]
    rw [hkk2]
    have hlt : ¬ (((headS b).1 + (headS b).2.1 : Nat) : Int) < (((headS b).1 + (headS b).2.1 : Nat) : Int) := by omega
    rcases hrow with ⟨rfl, hg9⟩ | ⟨k, hk, hkU, hg9, hrow⟩
    · simp -implicitDefEqProofs only [f0, f1, f4, f7, f9, f12, hg4, hg9, hlt, h01, splice, Z5, Qend, go_sem, reduceIte, Nat.reduceEqDiff, Nat.reduceAdd, Nat.reduceLeDiff, Nat.reduceLT, decide_true, decide_false, vc_cond2, vcGrps_guard2, vcD_val2, vcD_guard2]
      refine ⟨hE.set _ _ (by omega), .inl ⟨_, rfl, ?_⟩⟩
      simp only [endK, tkV, encE]
      exact Wk.tup (.cons (Wk.agg (.cons (Wk.refl _) (.cons (Wk.refl _) (.cons (Wk.refl _) (.cons (Wk.refl _) (.cons (Wk.nil 5) .nil)))))) (WkL.refl _))
    · have hk1 : ¬ k = S.n := by omega
      simp -implicitDefEqProofs only [f0, f1, f4, f7, f9, f12, hg4, hg9, hlt, h01, splice, Z5, Qend, go_sem, reduceIte, Nat.reduceEqDiff, Nat.reduceAdd, Nat.reduceLeDiff, Nat.reduceLT, decide_true, decide_false, vc_cond2, vcGrps_guard2, vcD_val2, vcD_guard2]
      refine ⟨hE.set _ _ (by omega), .inr ⟨k, 68, 5, 0, _, _, by omega, rfl, by rw [Store.get_set_ne _ _ hk1]; exact hrow, ?_, ?_⟩⟩
      · simp only [fzOk, fzOkL, and_true, true_and, encEs_length]; intro _; omega
      · simp [endK, tkV, encE, fz, fzL]
  · -- one more
    obtain ⟨g, rfl⟩ : ∃ g', g = g' + 1 := ⟨g - 1, by omega⟩
    have hlt : (((headS b).1 + j : Nat) : Int) < (((headS b).1 + (headS b).2.1 : Nat) : Int) := by omega
    have q0 : (0 : Int) ≤ (((headS b).1 + j : Nat) : Int) := by omega
    have q2 : (headS b).1 + j ≤ (headS b).1 + (headS b).2.1 := by omega
    have hsj : List.drop ((headS b).1 + j) (List.take ((headS b).1 + (headS b).2.1) b) = (contB b).drop j := by rw [contB, List.drop_drop]
    have hcj : ((contB b).drop j).length = (headS b).2.1 - j := by rw [List.length_drop]; omega
    have hjne : (contB b).drop j ≠ [] := fun h => by rw [h] at hcj; simp at hcj; omega
    have q2' : j ≤ (headS b).2.1 := hjm
    simp -implicitDefEqProofs only [f0, f1, f4, f7, f9, f12, hlt, q0, p1, q2, q2', hl, hsj, hwp, Nat.add_le_add_iff_left, go_sem, reduceIte, Nat.reduceEqDiff, Nat.reduceAdd, Nat.reduceLeDiff, Nat.reduceLT, decide_true, decide_false, vc_cond2, vcGrps_guard2, vcD_val2, vcD_guard2]
    refine (ih ((contB b).drop j) (w + 1) (by omega) (by omega)).use ?_
    generalize hcc : (contB b).drop j = c at hkd hcj hjne ⊢
    simp only [kidsF, if_neg hjne] at hkd
    have hU1 : ¬ S.n + 1 = U.n := by omega
    have hU0 : ¬ S.n = U.n := by omega
    have hU2 : ¬ S.n = U.n + 1 := by omega
    cases hrd : readF f c (w + 1) with
    | err n =>
      rw [hrd] at hkd
      simp only [addK] at hkd
      rw [hkd]
      have hn0 : ¬ (n : Int) = 0 := by have := (readF_err _ _ _ _ hrd).1; omega
      simp -implicitDefEqProofs only [tkV, f0, f1, f4, f7, f9, f12, hg4, hn0, hU0, encE_length, splice_encE, splice, Z5, ne_eq, not_false_eq_true, Qend, go_sem, reduceIte, Nat.reduceEqDiff, Nat.reduceAdd, Nat.reduceLeDiff, Nat.reduceLT, decide_true, decide_false, vc_cond2, vcGrps_guard2, vcD_val2, vcD_guard2]
      exact ⟨((hE.push _).set _ _ hE.n).set _ _ (by omega), .inl ⟨_, rfl, wk_z _⟩⟩
    | ok x rest =>
      rw [hrd] at hkd
      obtain ⟨hce, _, hal, hrs, hrl⟩ := readF_ok hrd
      have hadd : addK done (match kidsF (fun c => readF f c (w + 1)) g rest with | .err n => .err n | .ok ks => .ok (x :: ks)) = addK (done ++ [x]) (kidsF (fun c => readF f c (w + 1)) g rest) := by
        cases kidsF (fun c => readF f c (w + 1)) g rest <;> simp [addK]
      have hkd' := hkd.trans hadd
      have hc2 := (headS_two c hce).1
      generalize hdd : (headS c).1 + (headS c).2.1 = dd at hal
      have hrest : rest = (contB b).drop (j + dd) := by rw [hrs, restB, hdd, ← hcc, List.drop_drop]
      rw [hrest] at hkd'
      have hwd : IntKind.i64.wrap ((((headS b).1 + j : Nat) : Int) + (dd : Nat)) = (((headS b).1 + (j + dd) : Nat) : Int) := by rw [w64 _ (by omega) (by omega)]; omega
      rcases hrow with ⟨rfl, hg9⟩ | ⟨k, hk, hkU, hg9, hrow⟩
      · simp -implicitDefEqProofs only [tkV, f0, f1, f4, f7, f9, f12, hg9, hU0, hU1, hU2, hdd, hwd, encE_length, encE_take5, splice_encE, splice, ne_eq, not_true, go_sem, reduceIte, Nat.reduceEqDiff, Nat.reduceAdd, Nat.reduceLeDiff, Nat.reduceLT, decide_true, decide_false, vc_cond2, vcGrps_guard2, vcD_val2, vcD_guard2]
        refine ⟨by omega, g, by omega, j + dd, [x], rfl, by omega, by omega, by simp; omega, hkd', (((hE.push _).set _ _ hE.n).push _).set _ _ (by omega), by omega, hg4, .inr ⟨U.n + 1, by omega, by omega, rfl, ?_⟩⟩
        rw [if_neg (by omega), if_pos rfl]; rfl
      · have hk1 : ¬ k = U.n := by omega
        have hk2 : ¬ k = U.n + 1 := by omega
        have hk3 : ¬ S.n + 1 = k := by omega
        have hk4 : ¬ S.n = k := by omega
        simp -implicitDefEqProofs only [tkV, f0, f1, f4, f7, f9, f12, hg9, hrow, hU0, hU1, hU2, hk1, hk2, hk3, hk4, hdd, hwd, encEs_length, encE_length, encE_take5, splice_encE, splice, ne_eq, not_true, go_sem, reduceIte, Nat.reduceEqDiff, Nat.reduceAdd, Nat.reduceLeDiff, Nat.reduceLT, decide_true, decide_false, vc_cond2, vcGrps_guard2, vcD_val2, vcD_guard2]
        have hlx : (done ++ [x]).length = done.length + 1 := by simp
        refine ⟨by omega, g, by omega, j + dd, done ++ [x], rfl, by omega, by omega, by rw [hlx]; omega, hkd', ((((hE.push _).set _ _ hE.n).set _ _ (by omega)).push _).set _ _ (by omega), by omega, hg4, .inr ⟨U.n + 1, by omega, by omega, by rw [hlx], ?_⟩⟩
        rw [if_neg (by omega), if_pos rfl, encEs_app]; rfl
end Go.Proofs.YtajbeippbabhhaaGreatDoor.Eng

namespace Go.Proofs.YtajbeippbabhhaaGreatDoor.Eng
open Go Go.Proofs.Tryz

theorem d61n (S : Store) (p q : Nat) : ADef prog 144 [.ptr p 0, .ptr q 0] S none fun S' => S' = S := by
  refine adef_of_vc (lc := PD61) func144 rfl rfl rfl rfl rfl rfl rfl (by decide) (by decide) (by unfold PD61; kernel_rfl) rfl (by show 2 ≤ f144.ntmps; decide) ?_
  simp -implicitDefEqProofs only [PD61, mV, QDef, go_sem, reduceIte, Nat.reduceEqDiff, Nat.reduceAdd, Nat.reduceLeDiff, Nat.reduceLT, decide_true, decide_false, vc_cond2, vcGrps_guard2, vcD_val2, vcD_guard2]
theorem d61s (S : Store) (p q : Nat) (a b c d f x : AV) (n : Int) (hp : S.get p = some (.box 68 [a, b, c, d, f])) (hq : S.get q = some (.box 32 [x])) (hpq : q ≠ p) :
    ADef prog 144 [.ptr p 0, .ptr q 0] S (some (.ifc 32 (.int .i64 n))) fun S' => S' = (S.set p (some (.box 68 Z5))).set q (some (.box 32 [.int .i64 n])) := by
  refine adef_of_vc (lc := PD61) func144 rfl rfl rfl rfl rfl rfl rfl (by decide) (by decide) (by unfold PD61; kernel_rfl) rfl (by show 2 ≤ f144.ntmps; decide) ?_
  simp -implicitDefEqProofs only [PD61, mV, QDef, hp, hq, hpq, splice, Z5, go_sem, reduceIte, Nat.reduceEqDiff, Nat.reduceAdd, Nat.reduceLeDiff, Nat.reduceLT, decide_true, decide_false, vc_cond2, vcGrps_guard2, vcD_val2, vcD_guard2]

/-! ## Reading whole -/
def readS (b : List UInt8) : Elem × Nat := match readF (b.length + 1) b 0 with
  | .err n => (zE, n)
  | .ok x r => if r = [] then (x, 0) else (zE, 25)
theorem zE_bare : bare zE := fun n => by simp only [zE, encE, nmL, nm, encEs, List.append_nil, nmLL, and_self]
theorem readS_bare (b : List UInt8) : bare (readS b).1 := by
  unfold readS
  cases h : readF (b.length + 1) b 0 with
  | err n => exact zE_bare
  | ok x r => simp only; split
              · exact readF_bare _ _ _ _ _ h
              · exact zE_bare
theorem restB_nil (b : List UInt8) : restB b = [] ↔ ¬ (headS b).1 + (headS b).2.1 < b.length := by
  unfold restB; rw [List.drop_eq_nil_iff]; omega

theorem c41 (b : List UInt8) : Pure prog 53 [.str b] (.tup [.agg (encE (readS b).1), .int .i64 ((readS b).2 : Nat)]) := by
  refine Pure.out (fun n => by simp only [nm, nmL, and_true]; exact readS_bare b n) fun S => acalls_of_vc low41 (by simp) ?_
  have hx := (Ext.refl S).push
  have h63 := c63 (b.length + 1) b 0 (by omega) (by omega)
  simp -implicitDefEqProofs only [B41, go_sem, reduceIte, Nat.reduceEqDiff, Nat.reduceAdd, Nat.reduceLeDiff, Nat.reduceLT, decide_true, decide_false, vc_cond2, vcGrps_guard2, vcD_val2, vcD_guard2]
  have hc0 : ((0 : Nat) : Int) = 0 := rfl
  rw [hc0] at h63
  refine h63.use ?_
  have wz : ∀ n : Nat, Wk (.tup [.agg [.int .i64 0, .int .i64 0, .bool false, .str [], .lit (.slice none 0 0)], .int .i64 (n : Nat)]) (.tup [.agg (encE zE), .int .i64 (n : Nat)]) := fun n =>
    Wk.tup (.cons (Wk.agg (.cons (Wk.refl _) (.cons (Wk.refl _) (.cons (Wk.refl _) (.cons (Wk.refl _) (.cons (Wk.nil 5) .nil)))))) (WkL.refl _))
  unfold readS
  cases hr : readF (b.length + 1) b 0 with
  | err n =>
    have hn : ¬ (n : Int) = 0 := by have := (readF_err _ _ _ _ hr).1; omega
    simp -implicitDefEqProofs only [tkV, hn, encE_length, splice_encE, splice, ne_eq, not_false_eq_true, go_sem, reduceIte, Nat.reduceEqDiff, Nat.reduceAdd, Nat.reduceLeDiff, Nat.reduceLT, decide_true, decide_false, vc_cond2, vcGrps_guard2, vcD_val2, vcD_guard2]
    exact ⟨(((hx _).push _).set _ _ (by omega)).set _ _ (by omega), .inl ⟨_, rfl, wz n⟩⟩
  | ok x r =>
    obtain ⟨_, _, _, hrs, _⟩ := readF_ok hr
    have hrn := restB_nil b
    rw [← hrs] at hrn
    by_cases hlt : (headS b).1 + (headS b).2.1 < b.length
    · have hlt' : (((headS b).1 + (headS b).2.1 : Nat) : Int) < b.length := by omega
      have hr0 : ¬ r = [] := fun h => hrn.1 h hlt
      simp -implicitDefEqProofs only [tkV, hlt', hr0, encE_length, encE_take5, splice_encE, splice, ne_eq, not_true, not_false_eq_true, go_sem, reduceIte, Nat.reduceEqDiff, Nat.reduceAdd, Nat.reduceLeDiff, Nat.reduceLT, decide_true, decide_false, vc_cond2, vcGrps_guard2, vcD_val2, vcD_guard2]
      intro _
      exact ⟨(((hx _).push _).set _ _ (by omega)).set _ _ (by omega), .inl ⟨_, rfl, wz 25⟩⟩
    · have hlt' : ¬ (((headS b).1 + (headS b).2.1 : Nat) : Int) < b.length := by omega
      have hr0 : r = [] := hrn.2 hlt
      simp -implicitDefEqProofs only [tkV, hlt', hr0, encE_length, encE_take5, splice_encE, splice, ne_eq, not_true, not_false_eq_true, go_sem, reduceIte, Nat.reduceEqDiff, Nat.reduceAdd, Nat.reduceLeDiff, Nat.reduceLT, decide_true, decide_false, vc_cond2, vcGrps_guard2, vcD_val2, vcD_guard2]
      intro _
      exact ⟨(((hx _).push _).set _ _ (by omega)).set _ _ (by omega), .inl ⟨_, rfl, Wk.refl _⟩⟩

theorem has61 : hasBody prog 144 = true := by kernel_rfl
theorem c40 (b : List UInt8) : Pure prog 24 [.str b] (.tup [.agg (encE (readS b).1), .int .i64 ((readS b).2 : Nat)]) := by
  refine Pure.out (fun n => by simp only [nm, nmL, and_true]; exact readS_bare b n) fun S => ?_
  refine acalls_of_defer (l0 := PA40) (l1 := PB40) func24 rfl (by unfold PA40; kernel_rfl) (by unfold PB40; kernel_rfl) (rs := [.cell 2 true 5, .cell 3 false 1]) (by kernel_rfl) rfl rfl rfl rfl has61 rfl rfl rfl (by decide) (by show 1 ≤ f24.ntmps; decide) ?_
  have hx := (Ext.refl S).push
  have h62 := c62 (b.length + 1) b 0 (by omega) (by omega)
  have hc0 : ((0 : Nat) : Int) = 0 := rfl
  rw [hc0] at h62
  have hn01 : ¬ S.n + 1 = S.n := by omega
  have wz : ∀ n : Nat, Wk (.tup [.agg [.int .i64 0, .int .i64 0, .bool false, .str [], .lit (.slice none 0 0)], .int .i64 (n : Nat)]) (.tup [.agg (encE zE), .int .i64 (n : Nat)]) := fun n =>
    Wk.tup (.cons (Wk.agg (.cons (Wk.refl _) (.cons (Wk.refl _) (.cons (Wk.refl _) (.cons (Wk.refl _) (.cons (Wk.nil 5) .nil)))))) (WkL.refl _))
  simp -implicitDefEqProofs only [PA40, PB40, QFst, go_sem, reduceIte, Nat.reduceEqDiff, Nat.reduceAdd, Nat.reduceLeDiff, Nat.reduceLT, decide_true, decide_false, vc_cond2, vcGrps_guard2, vcD_val2, vcD_guard2]
  refine (h62 _).mono ?_
  rintro r T ⟨rfl, rfl⟩
  unfold readS
  cases hr : readF (b.length + 1) b 0 with
  | err n =>
    simp -implicitDefEqProofs only [resV, QPut, go_sem, reduceIte, Nat.reduceEqDiff, Nat.reduceAdd, Nat.reduceLeDiff, Nat.reduceLT, decide_true, decide_false, vc_cond2, vcGrps_guard2, vcD_val2, vcD_guard2]
    refine (d61s _ _ _ (.int .i64 0) (.int .i64 0) (.bool false) (.str []) (.lit (.slice none 0 0)) (.int .i64 0) _ (by simp [Store.get_push, Store.n_push]) (by simp [Store.get_push, Store.n_push]) (by omega)).mono ?_
    rintro T rfl
    simp -implicitDefEqProofs only [Z5, go_sem, reduceIte, Nat.reduceEqDiff, Nat.reduceAdd, Nat.reduceLeDiff, Nat.reduceLT, decide_true, decide_false, vc_cond2, vcGrps_guard2, vcD_val2, vcD_guard2]
    exact ⟨(((hx _).push _).set _ _ (by omega)).set _ _ (by omega), .inl ⟨_, rfl, wz n⟩⟩
  | ok x r =>
    by_cases hr0 : r = []
    · simp -implicitDefEqProofs only [resV, QPut, hr0, encE_length, encE_take5, splice_encE, splice, ne_eq, not_true, not_false_eq_true, go_sem, reduceIte, Nat.reduceEqDiff, Nat.reduceAdd, Nat.reduceLeDiff, Nat.reduceLT, decide_true, decide_false, vc_cond2, vcGrps_guard2, vcD_val2, vcD_guard2]
      refine (d61n _ _ _).mono ?_
      rintro T rfl
      simp -implicitDefEqProofs only [hr0, encE_length, encE_take5, go_sem, reduceIte, Nat.reduceEqDiff, Nat.reduceAdd, Nat.reduceLeDiff, Nat.reduceLT, decide_true, decide_false, vc_cond2, vcGrps_guard2, vcD_val2, vcD_guard2]
      exact ⟨(((((hx _).push _).push _).set _ _ (by omega)).set _ _ (by omega)).set _ _ (by omega), .inl ⟨_, rfl, Wk.refl _⟩⟩
    · simp -implicitDefEqProofs only [resV, QPut, hr0, encE_length, encE_take5, splice_encE, splice, ne_eq, not_true, not_false_eq_true, go_sem, reduceIte, Nat.reduceEqDiff, Nat.reduceAdd, Nat.reduceLeDiff, Nat.reduceLT, decide_true, decide_false, vc_cond2, vcGrps_guard2, vcD_val2, vcD_guard2]
      refine (d61n _ _ _).mono ?_
      rintro T rfl
      simp -implicitDefEqProofs only [hr0, encE_length, encE_take5, go_sem, reduceIte, Nat.reduceEqDiff, Nat.reduceAdd, Nat.reduceLeDiff, Nat.reduceLT, decide_true, decide_false, vc_cond2, vcGrps_guard2, vcD_val2, vcD_guard2]
      exact ⟨(((((hx _).push _).push _).set _ _ (by omega)).set _ _ (by omega)).set _ _ (by omega), .inl ⟨_, rfl, wz 25⟩⟩
end Go.Proofs.YtajbeippbabhhaaGreatDoor.Eng

namespace Go.Proofs.YtajbeippbabhhaaGreatDoor.Eng
open Go

/-! ## A message; what ends in X stands in a list's array behind its length -/
abbrev Byt := List UInt8
def encT (l : List Byt) : List (List AV) := l.map fun s => [.str s]
def txV (l : List Byt) (x : List (List AV)) : AV := .sl 1 (encT l ++ x) l.length
structure Fil where
  op : Int
  n : Int
  typ : Byt
  value : Byt
  init : Byt
  final : Byt
  any : List Byt
  anyX : List (List AV)
structure Att where
  typ : Byt
  values : List Byt
  valX : List (List AV)
structure Mdf where
  op : Int
  typ : Byt
  values : List Byt
  valX : List (List AV)
structure Ctl where
  oid : Byt
  crit : Bool
  has : Bool
  value : Byt
def Fil.enc (f : Fil) : List AV := [.int .i64 f.op, .int .i64 f.n, .str f.typ, .str f.value, .str f.init, .str f.final, txV f.any f.anyX]
def Att.enc (a : Att) : List AV := [.str a.typ, txV a.values a.valX]
def Mdf.enc (a : Mdf) : List AV := [.int .i64 a.op, .str a.typ, txV a.values a.valX]
def Ctl.enc (c : Ctl) : List AV := [.str c.oid, .bool c.crit, .bool c.has, .str c.value]
def filV (l : List Fil) (x : List (List AV)) : AV := .sl 7 (l.map Fil.enc ++ x) l.length
def attV (l : List Att) (x : List (List AV)) : AV := .sl 2 (l.map Att.enc ++ x) l.length
def mdfV (l : List Mdf) (x : List (List AV)) : AV := .sl 3 (l.map Mdf.enc ++ x) l.length
def ctlV (l : List Ctl) (x : List (List AV)) : AV := .sl 4 (l.map Ctl.enc ++ x) l.length

structure Msg where
  id : Int
  op : Int
  dn : Byt
  version : Int
  sasl : Bool
  secret : Byt
  scope : Int
  deref : Int
  size : Int
  time : Int
  typesOnly : Bool
  filter : List Fil
  filX : List (List AV)
  select : List Byt
  selX : List (List AV)
  mods : List Mdf
  modX : List (List AV)
  attrs : List Att
  attX : List (List AV)
  newRdn : Byt
  newSup : Byt
  deleteOld : Bool
  hasSup : Bool
  typ : Byt
  value : Byt
  oid : Byt
  has : Bool
  target : Int
  code : Int
  matched : Byt
  text : Byt
  controls : List Ctl
  ctlX : List (List AV)
def Msg.enc (m : Msg) : List AV := [.int .i64 m.id, .int .i64 m.op, .str m.dn, .int .i64 m.version, .bool m.sasl, .str m.secret, .int .i64 m.scope, .int .i64 m.deref, .int .i64 m.size, .int .i64 m.time, .bool m.typesOnly,
  filV m.filter m.filX, txV m.select m.selX, mdfV m.mods m.modX, attV m.attrs m.attX, .str m.newRdn, .str m.newSup, .bool m.deleteOld, .bool m.hasSup, .str m.typ, .str m.value, .str m.oid, .bool m.has, .int .i64 m.target,
  .int .i64 m.code, .str m.matched, .str m.text, ctlV m.controls m.ctlX]
/-- A message without anything but number, operation, controls. -/
def Msg.zero : Msg := ⟨0, 0, [], 0, false, [], 0, 0, 0, 0, false, [], [], [], [], [], [], [], [], [], [], false, false, [], [], [], false, 0, 0, [], [], [], []⟩
end Go.Proofs.YtajbeippbabhhaaGreatDoor.Eng

namespace Go.Proofs.YtajbeippbabhhaaGreatDoor.Eng
open Go

/-! ## The cells of a message -/
structure MV where
  id : Int
  op : Int
  dn : Byt
  version : Int
  sasl : Bool
  secret : Byt
  scope : Int
  deref : Int
  size : Int
  time : Int
  typesOnly : Bool
  filter : AV
  select : AV
  mods : AV
  attrs : AV
  newRdn : Byt
  newSup : Byt
  deleteOld : Bool
  hasSup : Bool
  typ : Byt
  value : Byt
  oid : Byt
  has : Bool
  target : Int
  code : Int
  matched : Byt
  text : Byt
  controls : AV
def MV.enc (v : MV) : List AV := [.int .i64 v.id, .int .i64 v.op, .str v.dn, .int .i64 v.version, .bool v.sasl, .str v.secret, .int .i64 v.scope, .int .i64 v.deref, .int .i64 v.size, .int .i64 v.time, .bool v.typesOnly, v.filter, v.select, v.mods, v.attrs, .str v.newRdn, .str v.newSup, .bool v.deleteOld, .bool v.hasSup, .str v.typ, .str v.value, .str v.oid, .bool v.has, .int .i64 v.target, .int .i64 v.code, .str v.matched, .str v.text, v.controls]
def nilV : AV := .lit (.slice none 0 0)
def MV.zero : MV := ⟨0, 0, [], 0, false, [], 0, 0, 0, 0, false, .lit (.slice none 0 0), .lit (.slice none 0 0), .lit (.slice none 0 0), .lit (.slice none 0 0), [], [], false, false, [], [], [], false, 0, 0, [], [], .lit (.slice none 0 0)⟩
def Msg.mv (m : Msg) : MV := ⟨m.id, m.op, m.dn, m.version, m.sasl, m.secret, m.scope, m.deref, m.size, m.time, m.typesOnly, filV m.filter m.filX, txV m.select m.selX, mdfV m.mods m.modX, attV m.attrs m.attX, m.newRdn, m.newSup, m.deleteOld, m.hasSup, m.typ, m.value, m.oid, m.has, m.target, m.code, m.matched, m.text, ctlV m.controls m.ctlX⟩
theorem Msg.enc_mv (m : Msg) : m.enc = m.mv.enc := rfl
theorem MV.len (v : MV) : v.enc.length = 28 := rfl
theorem MV.all (v : MV) : v.enc.take 28 = v.enc := rfl
theorem MV.put (v u : MV) : splice v.enc 0 u.enc = u.enc := by kernel_rfl
theorem MV.fold : [.int .i64 0, .int .i64 0, .str [], .int .i64 0, .bool false, .str [], .int .i64 0, .int .i64 0, .int .i64 0, .int .i64 0, .bool false, .lit (.slice none 0 0), .lit (.slice none 0 0), .lit (.slice none 0 0), .lit (.slice none 0 0), .str [], .str [], .bool false, .bool false, .str [], .str [], .str [], .bool false, .int .i64 0, .int .i64 0, .str [], .str [], .lit (.slice none 0 0)] = MV.zero.enc := rfl
theorem MV.ld0 (v : MV) : (v.enc).take 1 = [.int .i64 v.id] := rfl
def MV.s0 (v : MV) (x : Int) : MV := { v with id := x }
theorem MV.st0 (v : MV) (x : Int) : v.enc.set 0 (.int .i64 x) = (v.s0 x).enc := rfl
theorem MV.ln1 (v : MV) : (v.enc.drop 1).length = 27 := rfl
theorem MV.ld1 (v : MV) : (v.enc.drop 1).take 1 = [.int .i64 v.op] := rfl
def MV.s1 (v : MV) (x : Int) : MV := { v with op := x }
theorem MV.st1 (v : MV) (x : Int) : v.enc.set 1 (.int .i64 x) = (v.s1 x).enc := rfl
theorem MV.ln2 (v : MV) : (v.enc.drop 2).length = 26 := rfl
theorem MV.ld2 (v : MV) : (v.enc.drop 2).take 1 = [.str v.dn] := rfl
def MV.s2 (v : MV) (x : Byt) : MV := { v with dn := x }
theorem MV.st2 (v : MV) (x : Byt) : v.enc.set 2 (.str x) = (v.s2 x).enc := rfl
theorem MV.ln3 (v : MV) : (v.enc.drop 3).length = 25 := rfl
theorem MV.ld3 (v : MV) : (v.enc.drop 3).take 1 = [.int .i64 v.version] := rfl
def MV.s3 (v : MV) (x : Int) : MV := { v with version := x }
theorem MV.st3 (v : MV) (x : Int) : v.enc.set 3 (.int .i64 x) = (v.s3 x).enc := rfl
theorem MV.ln4 (v : MV) : (v.enc.drop 4).length = 24 := rfl
theorem MV.ld4 (v : MV) : (v.enc.drop 4).take 1 = [.bool v.sasl] := rfl
def MV.s4 (v : MV) (x : Bool) : MV := { v with sasl := x }
theorem MV.st4 (v : MV) (x : Bool) : v.enc.set 4 (.bool x) = (v.s4 x).enc := rfl
theorem MV.ln5 (v : MV) : (v.enc.drop 5).length = 23 := rfl
theorem MV.ld5 (v : MV) : (v.enc.drop 5).take 1 = [.str v.secret] := rfl
def MV.s5 (v : MV) (x : Byt) : MV := { v with secret := x }
theorem MV.st5 (v : MV) (x : Byt) : v.enc.set 5 (.str x) = (v.s5 x).enc := rfl
theorem MV.ln6 (v : MV) : (v.enc.drop 6).length = 22 := rfl
theorem MV.ld6 (v : MV) : (v.enc.drop 6).take 1 = [.int .i64 v.scope] := rfl
def MV.s6 (v : MV) (x : Int) : MV := { v with scope := x }
theorem MV.st6 (v : MV) (x : Int) : v.enc.set 6 (.int .i64 x) = (v.s6 x).enc := rfl
theorem MV.ln7 (v : MV) : (v.enc.drop 7).length = 21 := rfl
theorem MV.ld7 (v : MV) : (v.enc.drop 7).take 1 = [.int .i64 v.deref] := rfl
def MV.s7 (v : MV) (x : Int) : MV := { v with deref := x }
theorem MV.st7 (v : MV) (x : Int) : v.enc.set 7 (.int .i64 x) = (v.s7 x).enc := rfl
theorem MV.ln8 (v : MV) : (v.enc.drop 8).length = 20 := rfl
theorem MV.ld8 (v : MV) : (v.enc.drop 8).take 1 = [.int .i64 v.size] := rfl
def MV.s8 (v : MV) (x : Int) : MV := { v with size := x }
theorem MV.st8 (v : MV) (x : Int) : v.enc.set 8 (.int .i64 x) = (v.s8 x).enc := rfl
theorem MV.ln9 (v : MV) : (v.enc.drop 9).length = 19 := rfl
theorem MV.ld9 (v : MV) : (v.enc.drop 9).take 1 = [.int .i64 v.time] := rfl
def MV.s9 (v : MV) (x : Int) : MV := { v with time := x }
theorem MV.st9 (v : MV) (x : Int) : v.enc.set 9 (.int .i64 x) = (v.s9 x).enc := rfl
theorem MV.ln10 (v : MV) : (v.enc.drop 10).length = 18 := rfl
theorem MV.ld10 (v : MV) : (v.enc.drop 10).take 1 = [.bool v.typesOnly] := rfl
def MV.s10 (v : MV) (x : Bool) : MV := { v with typesOnly := x }
theorem MV.st10 (v : MV) (x : Bool) : v.enc.set 10 (.bool x) = (v.s10 x).enc := rfl
theorem MV.ln11 (v : MV) : (v.enc.drop 11).length = 17 := rfl
theorem MV.ld11 (v : MV) : (v.enc.drop 11).take 1 = [v.filter] := rfl
def MV.s11 (v : MV) (x : AV) : MV := { v with filter := x }
theorem MV.st11 (v : MV) (x : AV) : v.enc.set 11 (x) = (v.s11 x).enc := rfl
theorem MV.ln12 (v : MV) : (v.enc.drop 12).length = 16 := rfl
theorem MV.ld12 (v : MV) : (v.enc.drop 12).take 1 = [v.select] := rfl
def MV.s12 (v : MV) (x : AV) : MV := { v with select := x }
theorem MV.st12 (v : MV) (x : AV) : v.enc.set 12 (x) = (v.s12 x).enc := rfl
theorem MV.ln13 (v : MV) : (v.enc.drop 13).length = 15 := rfl
theorem MV.ld13 (v : MV) : (v.enc.drop 13).take 1 = [v.mods] := rfl
def MV.s13 (v : MV) (x : AV) : MV := { v with mods := x }
theorem MV.st13 (v : MV) (x : AV) : v.enc.set 13 (x) = (v.s13 x).enc := rfl
theorem MV.ln14 (v : MV) : (v.enc.drop 14).length = 14 := rfl
theorem MV.ld14 (v : MV) : (v.enc.drop 14).take 1 = [v.attrs] := rfl
def MV.s14 (v : MV) (x : AV) : MV := { v with attrs := x }
theorem MV.st14 (v : MV) (x : AV) : v.enc.set 14 (x) = (v.s14 x).enc := rfl
theorem MV.ln15 (v : MV) : (v.enc.drop 15).length = 13 := rfl
theorem MV.ld15 (v : MV) : (v.enc.drop 15).take 1 = [.str v.newRdn] := rfl
def MV.s15 (v : MV) (x : Byt) : MV := { v with newRdn := x }
theorem MV.st15 (v : MV) (x : Byt) : v.enc.set 15 (.str x) = (v.s15 x).enc := rfl
theorem MV.ln16 (v : MV) : (v.enc.drop 16).length = 12 := rfl
theorem MV.ld16 (v : MV) : (v.enc.drop 16).take 1 = [.str v.newSup] := rfl
def MV.s16 (v : MV) (x : Byt) : MV := { v with newSup := x }
theorem MV.st16 (v : MV) (x : Byt) : v.enc.set 16 (.str x) = (v.s16 x).enc := rfl
theorem MV.ln17 (v : MV) : (v.enc.drop 17).length = 11 := rfl
theorem MV.ld17 (v : MV) : (v.enc.drop 17).take 1 = [.bool v.deleteOld] := rfl
def MV.s17 (v : MV) (x : Bool) : MV := { v with deleteOld := x }
theorem MV.st17 (v : MV) (x : Bool) : v.enc.set 17 (.bool x) = (v.s17 x).enc := rfl
theorem MV.ln18 (v : MV) : (v.enc.drop 18).length = 10 := rfl
theorem MV.ld18 (v : MV) : (v.enc.drop 18).take 1 = [.bool v.hasSup] := rfl
def MV.s18 (v : MV) (x : Bool) : MV := { v with hasSup := x }
theorem MV.st18 (v : MV) (x : Bool) : v.enc.set 18 (.bool x) = (v.s18 x).enc := rfl
theorem MV.ln19 (v : MV) : (v.enc.drop 19).length = 9 := rfl
theorem MV.ld19 (v : MV) : (v.enc.drop 19).take 1 = [.str v.typ] := rfl
def MV.s19 (v : MV) (x : Byt) : MV := { v with typ := x }
theorem MV.st19 (v : MV) (x : Byt) : v.enc.set 19 (.str x) = (v.s19 x).enc := rfl
theorem MV.ln20 (v : MV) : (v.enc.drop 20).length = 8 := rfl
theorem MV.ld20 (v : MV) : (v.enc.drop 20).take 1 = [.str v.value] := rfl
def MV.s20 (v : MV) (x : Byt) : MV := { v with value := x }
theorem MV.st20 (v : MV) (x : Byt) : v.enc.set 20 (.str x) = (v.s20 x).enc := rfl
theorem MV.ln21 (v : MV) : (v.enc.drop 21).length = 7 := rfl
theorem MV.ld21 (v : MV) : (v.enc.drop 21).take 1 = [.str v.oid] := rfl
def MV.s21 (v : MV) (x : Byt) : MV := { v with oid := x }
theorem MV.st21 (v : MV) (x : Byt) : v.enc.set 21 (.str x) = (v.s21 x).enc := rfl
theorem MV.ln22 (v : MV) : (v.enc.drop 22).length = 6 := rfl
theorem MV.ld22 (v : MV) : (v.enc.drop 22).take 1 = [.bool v.has] := rfl
def MV.s22 (v : MV) (x : Bool) : MV := { v with has := x }
theorem MV.st22 (v : MV) (x : Bool) : v.enc.set 22 (.bool x) = (v.s22 x).enc := rfl
theorem MV.ln23 (v : MV) : (v.enc.drop 23).length = 5 := rfl
theorem MV.ld23 (v : MV) : (v.enc.drop 23).take 1 = [.int .i64 v.target] := rfl
def MV.s23 (v : MV) (x : Int) : MV := { v with target := x }
theorem MV.st23 (v : MV) (x : Int) : v.enc.set 23 (.int .i64 x) = (v.s23 x).enc := rfl
theorem MV.ln24 (v : MV) : (v.enc.drop 24).length = 4 := rfl
theorem MV.ld24 (v : MV) : (v.enc.drop 24).take 1 = [.int .i64 v.code] := rfl
def MV.s24 (v : MV) (x : Int) : MV := { v with code := x }
theorem MV.st24 (v : MV) (x : Int) : v.enc.set 24 (.int .i64 x) = (v.s24 x).enc := rfl
theorem MV.ln25 (v : MV) : (v.enc.drop 25).length = 3 := rfl
theorem MV.ld25 (v : MV) : (v.enc.drop 25).take 1 = [.str v.matched] := rfl
def MV.s25 (v : MV) (x : Byt) : MV := { v with matched := x }
theorem MV.st25 (v : MV) (x : Byt) : v.enc.set 25 (.str x) = (v.s25 x).enc := rfl
theorem MV.ln26 (v : MV) : (v.enc.drop 26).length = 2 := rfl
theorem MV.ld26 (v : MV) : (v.enc.drop 26).take 1 = [.str v.text] := rfl
def MV.s26 (v : MV) (x : Byt) : MV := { v with text := x }
theorem MV.st26 (v : MV) (x : Byt) : v.enc.set 26 (.str x) = (v.s26 x).enc := rfl
theorem MV.ln27 (v : MV) : (v.enc.drop 27).length = 1 := rfl
theorem MV.ld27 (v : MV) : (v.enc.drop 27).take 1 = [v.controls] := rfl
def MV.s27 (v : MV) (x : AV) : MV := { v with controls := x }
theorem MV.st27 (v : MV) (x : AV) : v.enc.set 27 (x) = (v.s27 x).enc := rfl
attribute [go_sem] Msg.enc_mv MV.len MV.all MV.put MV.fold MV.ld0 MV.st0 MV.ln1 MV.ld1 MV.st1 MV.ln2 MV.ld2 MV.st2 MV.ln3 MV.ld3 MV.st3 MV.ln4 MV.ld4 MV.st4 MV.ln5 MV.ld5 MV.st5 MV.ln6 MV.ld6 MV.st6 MV.ln7 MV.ld7 MV.st7 MV.ln8 MV.ld8 MV.st8 MV.ln9 MV.ld9 MV.st9 MV.ln10 MV.ld10 MV.st10 MV.ln11 MV.ld11 MV.st11 MV.ln12 MV.ld12 MV.st12 MV.ln13 MV.ld13 MV.st13 MV.ln14 MV.ld14 MV.st14 MV.ln15 MV.ld15 MV.st15 MV.ln16 MV.ld16 MV.st16 MV.ln17 MV.ld17 MV.st17 MV.ln18 MV.ld18 MV.st18 MV.ln19 MV.ld19 MV.st19 MV.ln20 MV.ld20 MV.st20 MV.ln21 MV.ld21 MV.st21 MV.ln22 MV.ld22 MV.st22 MV.ln23 MV.ld23 MV.st23 MV.ln24 MV.ld24 MV.st24 MV.ln25 MV.ld25 MV.st25 MV.ln26 MV.ld26 MV.st26 MV.ln27 MV.ld27 MV.st27
theorem Msg.mv_id (m : Msg) : m.mv.id = m.id := rfl
theorem Msg.mv_op (m : Msg) : m.mv.op = m.op := rfl
theorem Msg.mv_dn (m : Msg) : m.mv.dn = m.dn := rfl
theorem Msg.mv_version (m : Msg) : m.mv.version = m.version := rfl
theorem Msg.mv_sasl (m : Msg) : m.mv.sasl = m.sasl := rfl
theorem Msg.mv_secret (m : Msg) : m.mv.secret = m.secret := rfl
theorem Msg.mv_scope (m : Msg) : m.mv.scope = m.scope := rfl
theorem Msg.mv_deref (m : Msg) : m.mv.deref = m.deref := rfl
theorem Msg.mv_size (m : Msg) : m.mv.size = m.size := rfl
theorem Msg.mv_time (m : Msg) : m.mv.time = m.time := rfl
theorem Msg.mv_typesOnly (m : Msg) : m.mv.typesOnly = m.typesOnly := rfl
theorem Msg.mv_filter (m : Msg) : m.mv.filter = filV m.filter m.filX := rfl
theorem Msg.mv_select (m : Msg) : m.mv.select = txV m.select m.selX := rfl
theorem Msg.mv_mods (m : Msg) : m.mv.mods = mdfV m.mods m.modX := rfl
theorem Msg.mv_attrs (m : Msg) : m.mv.attrs = attV m.attrs m.attX := rfl
theorem Msg.mv_newRdn (m : Msg) : m.mv.newRdn = m.newRdn := rfl
theorem Msg.mv_newSup (m : Msg) : m.mv.newSup = m.newSup := rfl
theorem Msg.mv_deleteOld (m : Msg) : m.mv.deleteOld = m.deleteOld := rfl
theorem Msg.mv_hasSup (m : Msg) : m.mv.hasSup = m.hasSup := rfl
theorem Msg.mv_typ (m : Msg) : m.mv.typ = m.typ := rfl
theorem Msg.mv_value (m : Msg) : m.mv.value = m.value := rfl
theorem Msg.mv_oid (m : Msg) : m.mv.oid = m.oid := rfl
theorem Msg.mv_has (m : Msg) : m.mv.has = m.has := rfl
theorem Msg.mv_target (m : Msg) : m.mv.target = m.target := rfl
theorem Msg.mv_code (m : Msg) : m.mv.code = m.code := rfl
theorem Msg.mv_matched (m : Msg) : m.mv.matched = m.matched := rfl
theorem Msg.mv_text (m : Msg) : m.mv.text = m.text := rfl
theorem Msg.mv_controls (m : Msg) : m.mv.controls = ctlV m.controls m.ctlX := rfl
attribute [go_sem] filV txV mdfV attV ctlV Msg.mv_id Msg.mv_op Msg.mv_dn Msg.mv_version Msg.mv_sasl Msg.mv_secret Msg.mv_scope Msg.mv_deref Msg.mv_size Msg.mv_time Msg.mv_typesOnly Msg.mv_filter Msg.mv_select Msg.mv_mods Msg.mv_attrs Msg.mv_newRdn Msg.mv_newSup Msg.mv_deleteOld Msg.mv_hasSup Msg.mv_typ Msg.mv_value Msg.mv_oid Msg.mv_has Msg.mv_target Msg.mv_code Msg.mv_matched Msg.mv_text Msg.mv_controls

/-! A list that is nil stands for an empty one. -/
def nilOr (n : Nat) (x y : AV) : Prop := x = y ∨ (x = .lit (.slice none 0 0) ∧ y = .sl n [] 0)
theorem nilOr.wk {n : Nat} {x y : AV} (h : nilOr n x y) : Wk x y := by
  rcases h with rfl | ⟨rfl, rfl⟩
  · exact Wk.refl _
  · exact Wk.nil n
theorem MV.wk (v u : MV) (h1 : nilOr 7 v.filter u.filter) (h2 : nilOr 1 v.select u.select) (h3 : nilOr 3 v.mods u.mods) (h4 : nilOr 2 v.attrs u.attrs) (h5 : nilOr 4 v.controls u.controls)
    (h : u = { v with filter := u.filter, select := u.select, mods := u.mods, attrs := u.attrs, controls := u.controls }) : Wk (.agg v.enc) (.agg u.enc) := by
  rw [h]
  refine Wk.agg ?_
  unfold MV.enc
  exact .cons (Wk.refl _) (.cons (Wk.refl _) (.cons (Wk.refl _) (.cons (Wk.refl _) (.cons (Wk.refl _) (.cons (Wk.refl _) (.cons (Wk.refl _) (.cons (Wk.refl _) (.cons (Wk.refl _) (.cons (Wk.refl _) (.cons (Wk.refl _) (.cons h1.wk (.cons h2.wk (.cons h3.wk (.cons h4.wk (.cons (Wk.refl _) (.cons (Wk.refl _) (.cons (Wk.refl _) (.cons (Wk.refl _) (.cons (Wk.refl _) (.cons (Wk.refl _) (.cons (Wk.refl _) (.cons (Wk.refl _) (.cons (Wk.refl _) (.cons (Wk.refl _) (.cons (Wk.refl _) (.cons (Wk.refl _) (.cons h5.wk (WkL.nil))))))))))))))))))))))))))))
/-! Fil -/
theorem Fil.len (v : Fil) : v.enc.length = 7 := rfl
theorem Fil.all (v : Fil) : v.enc.take 7 = v.enc := rfl
theorem Fil.put (x0 x1 x2 x3 x4 x5 x6 : AV) (v : Fil) : splice [x0, x1, x2, x3, x4, x5, x6] 0 v.enc = v.enc := rfl
theorem Fil.put2 (u v : Fil) : splice u.enc 0 v.enc = v.enc := rfl
theorem Fil.ld0 (v : Fil) : (v.enc).take 1 = [.int .i64 v.op] := rfl
theorem Fil.ln1 (v : Fil) : (v.enc.drop 1).length = 6 := rfl
theorem Fil.ld1 (v : Fil) : (v.enc.drop 1).take 1 = [.int .i64 v.n] := rfl
theorem Fil.ln2 (v : Fil) : (v.enc.drop 2).length = 5 := rfl
theorem Fil.ld2 (v : Fil) : (v.enc.drop 2).take 1 = [.str v.typ] := rfl
theorem Fil.ln3 (v : Fil) : (v.enc.drop 3).length = 4 := rfl
theorem Fil.ld3 (v : Fil) : (v.enc.drop 3).take 1 = [.str v.value] := rfl
theorem Fil.ln4 (v : Fil) : (v.enc.drop 4).length = 3 := rfl
theorem Fil.ld4 (v : Fil) : (v.enc.drop 4).take 1 = [.str v.init] := rfl
theorem Fil.ln5 (v : Fil) : (v.enc.drop 5).length = 2 := rfl
theorem Fil.ld5 (v : Fil) : (v.enc.drop 5).take 1 = [.str v.final] := rfl
theorem Fil.ln6 (v : Fil) : (v.enc.drop 6).length = 1 := rfl
theorem Fil.ld6 (v : Fil) : (v.enc.drop 6).take 1 = [txV v.any v.anyX] := rfl
/-! Att -/
theorem Att.len (v : Att) : v.enc.length = 2 := rfl
theorem Att.all (v : Att) : v.enc.take 2 = v.enc := rfl
theorem Att.put (x0 x1 : AV) (v : Att) : splice [x0, x1] 0 v.enc = v.enc := rfl
theorem Att.put2 (u v : Att) : splice u.enc 0 v.enc = v.enc := rfl
theorem Att.ld0 (v : Att) : (v.enc).take 1 = [.str v.typ] := rfl
theorem Att.ln1 (v : Att) : (v.enc.drop 1).length = 1 := rfl
theorem Att.ld1 (v : Att) : (v.enc.drop 1).take 1 = [txV v.values v.valX] := rfl
/-! Mdf -/
theorem Mdf.len (v : Mdf) : v.enc.length = 3 := rfl
theorem Mdf.all (v : Mdf) : v.enc.take 3 = v.enc := rfl
theorem Mdf.put (x0 x1 x2 : AV) (v : Mdf) : splice [x0, x1, x2] 0 v.enc = v.enc := rfl
theorem Mdf.put2 (u v : Mdf) : splice u.enc 0 v.enc = v.enc := rfl
theorem Mdf.ld0 (v : Mdf) : (v.enc).take 1 = [.int .i64 v.op] := rfl
theorem Mdf.ln1 (v : Mdf) : (v.enc.drop 1).length = 2 := rfl
theorem Mdf.ld1 (v : Mdf) : (v.enc.drop 1).take 1 = [.str v.typ] := rfl
theorem Mdf.ln2 (v : Mdf) : (v.enc.drop 2).length = 1 := rfl
theorem Mdf.ld2 (v : Mdf) : (v.enc.drop 2).take 1 = [txV v.values v.valX] := rfl
/-! Ctl -/
theorem Ctl.len (v : Ctl) : v.enc.length = 4 := rfl
theorem Ctl.all (v : Ctl) : v.enc.take 4 = v.enc := rfl
theorem Ctl.put (x0 x1 x2 x3 : AV) (v : Ctl) : splice [x0, x1, x2, x3] 0 v.enc = v.enc := rfl
theorem Ctl.put2 (u v : Ctl) : splice u.enc 0 v.enc = v.enc := rfl
theorem Ctl.ld0 (v : Ctl) : (v.enc).take 1 = [.str v.oid] := rfl
theorem Ctl.ln1 (v : Ctl) : (v.enc.drop 1).length = 3 := rfl
theorem Ctl.ld1 (v : Ctl) : (v.enc.drop 1).take 1 = [.bool v.crit] := rfl
theorem Ctl.ln2 (v : Ctl) : (v.enc.drop 2).length = 2 := rfl
theorem Ctl.ld2 (v : Ctl) : (v.enc.drop 2).take 1 = [.bool v.has] := rfl
theorem Ctl.ln3 (v : Ctl) : (v.enc.drop 3).length = 1 := rfl
theorem Ctl.ld3 (v : Ctl) : (v.enc.drop 3).take 1 = [.str v.value] := rfl
attribute [go_sem] Fil.len Fil.all Fil.put Fil.put2 Fil.ld0 Fil.ln1 Fil.ld1 Fil.ln2 Fil.ld2 Fil.ln3 Fil.ld3 Fil.ln4 Fil.ld4 Fil.ln5 Fil.ld5 Fil.ln6 Fil.ld6 Att.len Att.all Att.put Att.put2 Att.ld0 Att.ln1 Att.ld1 Mdf.len Mdf.all Mdf.put Mdf.put2 Mdf.ld0 Mdf.ln1 Mdf.ld1 Mdf.ln2 Mdf.ld2 Ctl.len Ctl.all Ctl.put Ctl.put2 Ctl.ld0 Ctl.ln1 Ctl.ld1 Ctl.ln2 Ctl.ld2 Ctl.ln3 Ctl.ld3
end Go.Proofs.YtajbeippbabhhaaGreatDoor.Eng

namespace Go.Proofs.YtajbeippbabhhaaGreatDoor.Eng
open Go Go.Proofs.Tryz

@[irreducible] def Bm_isOp : LCode :=
  .seq (.region [⟨none, [(some 4, .mv (.con (.bool false)))]⟩]) (.seq (.region [⟨none, [(some 5, .mv (.tmp 1)), (some 6, .mv (.tmp 0)), (some 7, .call 244 [.tmp 5, .tmp 6]), (some 4, .mv (.tmp 7))]⟩]) .ret)
theorem lowm_isOp : lowerFO [] prog 148 = some ⟨8, [LRes.tmp 4], Bm_isOp⟩ := by kernel_rfl

@[irreducible] def Bm_IsRequest : LCode :=
  .seq (.region [⟨none, [(some 2, .mv (.con (.bool false)))]⟩]) (.seq (.region [⟨none, [(some 3, .mv (.tmp 0)), (some 4, .bslice 3 1 [.con (.int .i64 0), .con (.int .i64 2), .con (.int .i64 3), .con (.int .i64 6), .con (.int .i64
    8), .con (.int .i64 10), .con (.int .i64 12), .con (.int .i64 14), .con (.int .i64 16), .con (.int .i64 23)]), (some 5, .call 148 [.tmp 3, .tmp 4]), (some 2, .mv (.tmp 5))]⟩]) .ret)
theorem lowm_IsRequest : lowerFO [] prog 27 = some ⟨6, [LRes.tmp 2], Bm_IsRequest⟩ := by kernel_rfl

@[irreducible] def Bm_isResult : LCode :=
  .seq (.region [⟨none, [(some 2, .mv (.con (.bool false)))]⟩]) (.seq (.region [⟨none, [(some 3, .mv (.tmp 0)), (some 4, .bslice 3 1 [.con (.int .i64 1), .con (.int .i64 5), .con (.int .i64 7), .con (.int .i64 9), .con (.int .i64
    11), .con (.int .i64 13), .con (.int .i64 15), .con (.int .i64 24)]), (some 5, .call 148 [.tmp 3, .tmp 4]), (some 2, .mv (.tmp 5))]⟩]) .ret)
theorem lowm_isResult : lowerFO [] prog 182 = some ⟨6, [LRes.tmp 2], Bm_isResult⟩ := by kernel_rfl

@[irreducible] def Bm_Reply : LCode :=
  .seq (.region [⟨none, [(some 2, .mv (.con (.int .i64 0)))]⟩]) (.seq (.block 0 (.seq (.seq (.region [⟨none, [(some 4, .mv (.tmp 0)), (some 5, .call 27 [.tmp 4]), (some 6, .un .not (.tmp 5)), (some 3, .mv (.tmp 6))]⟩]) (.cond (.tmp
    3) .skip (.seq (.region [⟨none, [(some 7, .mv (.tmp 0)), (some 8, .bin .eql (.tmp 7) (.con (.int .i64 2))), (some 3, .mv (.tmp 8))]⟩]) (.cond (.tmp 3) .skip (.region [⟨none, [(some 9, .mv (.tmp 0)), (some 10, .bin .eql (.tmp 9)
    (.con (.int .i64 16))), (some 3, .mv (.tmp 10))]⟩]))))) (.cond (.tmp 3) (.seq (.region [⟨none, [(some 2, .mv (.con (.int .i64 (-1))))]⟩]) .ret) (.seq (.region [⟨none, [(some 12, .mv (.tmp 0)), (some 13, .bin .eql (.tmp 12) (.con
    (.int .i64 3))), (some 11, .mv (.tmp 13))]⟩]) (.cond (.tmp 11) (.seq (.region [⟨none, [(some 2, .mv (.con (.int .i64 5)))]⟩]) .ret) .skip))))) (.seq (.region [⟨none, [(some 14, .mv (.tmp 0)), (some 15, .bin .add (.tmp 14) (.con
    (.int .i64 1))), (some 2, .mv (.tmp 15))]⟩]) .ret))
theorem lowm_Reply : lowerFO [] prog 26 = some ⟨16, [LRes.tmp 2], Bm_Reply⟩ := by kernel_rfl

@[irreducible] def Bm_Result : LCode :=
  .seq (.region [⟨none, [(some 10, .alloc 28 [.int .i64 0, .int .i64 0, .str [], .int .i64 0, .bool false, .str [], .int .i64 0, .int .i64 0, .int .i64 0, .int .i64 0, .bool false, .lit (.slice none 0 0), .lit (.slice none 0 0),
    .lit (.slice none 0 0), .lit (.slice none 0 0), .str [], .str [], .bool false, .bool false, .str [], .str [], .str [], .bool false, .int .i64 0, .int .i64 0, .str [], .str [], .lit (.slice none 0 0)])]⟩]) (.seq (.region [⟨none,
    [(some 11, .mv (.tmp 0)), (some 12, .mv (.tmp 1)), (some 13, .mv (.tmp 2)), (some 14, .mv (.tmp 3)), (some 15, .mv (.tmp 4)), (some 16, .build [.int .i64 0, .int .i64 0, .str [], .int .i64 0, .bool false, .str [], .int .i64 0,
    .int .i64 0, .int .i64 0, .int .i64 0, .bool false, .lit (.slice none 0 0), .lit (.slice none 0 0), .lit (.slice none 0 0), .lit (.slice none 0 0), .str [], .str [], .bool false, .bool false, .str [], .str [], .str [], .bool
    false, .int .i64 0, .int .i64 0, .str [], .str [], .lit (.slice none 0 0)] [(0, 1, .tmp 11), (1, 1, .tmp 12), (24, 1, .tmp 13), (25, 1, .tmp 14), (26, 1, .tmp 15)]), (none, .store 28 (.tmp 10) (.tmp 16))]⟩]) .ret)
theorem lowm_Result : lowerFO [] prog 28 = some ⟨17, [LRes.cell 10 true 28], Bm_Result⟩ := by kernel_rfl

@[irreducible] def Bm_Notice : LCode :=
  .seq (.region [⟨none, [(some 4, .alloc 28 [.int .i64 0, .int .i64 0, .str [], .int .i64 0, .bool false, .str [], .int .i64 0, .int .i64 0, .int .i64 0, .int .i64 0, .bool false, .lit (.slice none 0 0), .lit (.slice none 0 0), .lit
    (.slice none 0 0), .lit (.slice none 0 0), .str [], .str [], .bool false, .bool false, .str [], .str [], .str [], .bool false, .int .i64 0, .int .i64 0, .str [], .str [], .lit (.slice none 0 0)])]⟩]) (.seq (.region [⟨none,
    [(some 6, .mv (.tmp 0)), (some 7, .mv (.tmp 1)), (some 8, .call 28 [.con (.int .i64 0), .con (.int .i64 24), .tmp 6, .con (.str []), .tmp 7]), (some 5, .alloc 28 [.int .i64 0, .int .i64 0, .str [], .int .i64 0, .bool false, .str
    [], .int .i64 0, .int .i64 0, .int .i64 0, .int .i64 0, .bool false, .lit (.slice none 0 0), .lit (.slice none 0 0), .lit (.slice none 0 0), .lit (.slice none 0 0), .str [], .str [], .bool false, .bool false, .str [], .str [],
    .str [], .bool false, .int .i64 0, .int .i64 0, .str [], .str [], .lit (.slice none 0 0)]), (none, .store 28 (.tmp 5) (.tmp 8))]⟩]) (.seq (.region [⟨none, [(some 9, .faddr 21 (.tmp 5)), (none, .store 1 (.tmp 9) (.con (.str [49,
    46, 51, 46, 54, 46, 49, 46, 52, 46, 49, 46, 49, 52, 54, 54, 46, 50, 48, 48, 51, 54])))]⟩]) (.seq (.region [⟨none, [(some 10, .load true 28 (.tmp 5)), (none, .store 28 (.tmp 4) (.tmp 10))]⟩]) .ret)))
theorem lowm_Notice : lowerFO [] prog 29 = some ⟨11, [LRes.cell 4 true 28], Bm_Notice⟩ := by kernel_rfl

@[irreducible] def Bm_bare : LCode :=
  .seq (.region [⟨none, [(some 1, .box 28 (.tmp 0)), (some 2, .alloc 28 [.int .i64 0, .int .i64 0, .str [], .int .i64 0, .bool false, .str [], .int .i64 0, .int .i64 0, .int .i64 0, .int .i64 0, .bool false, .lit (.slice none 0 0),
    .lit (.slice none 0 0), .lit (.slice none 0 0), .lit (.slice none 0 0), .str [], .str [], .bool false, .bool false, .str [], .str [], .str [], .bool false, .int .i64 0, .int .i64 0, .str [], .str [], .lit (.slice none 0 0)]),
    (some 3, .mv (.con (.bool false)))]⟩]) (.seq (.region [⟨none, [(some 6, .faddr 0 (.tmp 1)), (some 7, .load false 1 (.tmp 6)), (some 8, .faddr 1 (.tmp 1)), (some 9, .load false 1 (.tmp 8)), (some 10, .faddr 27 (.tmp 1)), (some
    11, .load false 1 (.tmp 10)), (some 12, .build [.int .i64 0, .int .i64 0, .str [], .int .i64 0, .bool false, .str [], .int .i64 0, .int .i64 0, .int .i64 0, .int .i64 0, .bool false, .lit (.slice none 0 0), .lit (.slice none 0
    0), .lit (.slice none 0 0), .lit (.slice none 0 0), .str [], .str [], .bool false, .bool false, .str [], .str [], .str [], .bool false, .int .i64 0, .int .i64 0, .str [], .str [], .lit (.slice none 0 0)] [(0, 1, .tmp 7), (1, 1,
    .tmp 9), (27, 1, .tmp 11)]), (some 4, .alloc 28 [.int .i64 0, .int .i64 0, .str [], .int .i64 0, .bool false, .str [], .int .i64 0, .int .i64 0, .int .i64 0, .int .i64 0, .bool false, .lit (.slice none 0 0), .lit (.slice none 0
    0), .lit (.slice none 0 0), .lit (.slice none 0 0), .str [], .str [], .bool false, .bool false, .str [], .str [], .str [], .bool false, .int .i64 0, .int .i64 0, .str [], .str [], .lit (.slice none 0 0)]), (none, .store 28 (.tmp
    4) (.tmp 12))]⟩]) (.seq (.region [⟨none, [(some 5, .mv (.con (.bool true)))]⟩]) (.seq (.block 0 (.seq (.region [⟨none, [(some 14, .faddr 1 (.tmp 1)), (some 15, .load false 1 (.tmp 14)), (some 16, .bin .eql (.tmp 15) (.con (.int
    .i64 0))), (some 13, .mv (.tmp 16))]⟩]) (.cond (.tmp 13) (.seq (.quiet [⟨some 17, none, .faddr 3 (.tmp 1), false, 0, 0⟩, ⟨some 18, none, .load false 1 (.tmp 17), false, 0, 0⟩, ⟨some 19, none, .faddr 2 (.tmp 1), false, 0, 1⟩,
    ⟨some 20, none, .load false 1 (.tmp 19), false, 0, 1⟩, ⟨some 21, none, .faddr 4 (.tmp 1), false, 0, 2⟩, ⟨some 22, none, .load false 1 (.tmp 21), false, 0, 2⟩, ⟨some 23, none, .faddr 5 (.tmp 1), false, 0, 3⟩, ⟨some 24, none,
    .load false 1 (.tmp 23), false, 0, 3⟩, ⟨some 25, none, .faddr 3 (.tmp 4), false, 0, 0⟩, ⟨none, none, .store 1 (.tmp 25) (.tmp 18), true, 0, 0⟩, ⟨some 26, none, .faddr 2 (.tmp 4), false, 0, 0⟩, ⟨none, none, .store 1 (.tmp 26)
    (.tmp 20), true, 0, 0⟩, ⟨some 27, none, .faddr 4 (.tmp 4), false, 0, 0⟩, ⟨none, none, .store 1 (.tmp 27) (.tmp 22), true, 0, 0⟩, ⟨some 28, none, .faddr 5 (.tmp 4), false, 0, 0⟩, ⟨none, none, .store 1 (.tmp 28) (.tmp 24), true,
    0, 0⟩]) (.region [⟨none, [(some 29, .faddr 3 (.tmp 1)), (some 30, .load false 1 (.tmp 29)), (some 31, .bin .geq (.tmp 30) (.con (.int .i64 1))), (some 32, .mv (.tmp 31))]⟩, ⟨some (32, true), [(some 33, .faddr 3 (.tmp 1)), (some
    34, .load false 1 (.tmp 33)), (some 35, .bin .leq (.tmp 34) (.con (.int .i64 127)))]⟩, ⟨none, [(some 36, .pick (.tmp 32) (.tmp 35) (.con (.bool false))), (some 5, .mv (.tmp 36))]⟩])) (.seq (.region [⟨none, [(some 38, .faddr 1
    (.tmp 1)), (some 39, .load false 1 (.tmp 38)), (some 40, .bin .eql (.tmp 39) (.con (.int .i64 2))), (some 37, .mv (.tmp 40))]⟩]) (.cond (.tmp 37) .skip (.seq (.region [⟨none, [(some 42, .faddr 1 (.tmp 1)), (some 43, .load false
    1 (.tmp 42)), (some 44, .bin .eql (.tmp 43) (.con (.int .i64 3))), (some 41, .mv (.tmp 44))]⟩]) (.cond (.tmp 41) (.seq (.quiet [⟨some 45, none, .faddr 2 (.tmp 1), false, 0, 0⟩, ⟨some 46, none, .load false 1 (.tmp 45), false, 0,
    0⟩, ⟨some 47, none, .faddr 6 (.tmp 1), false, 0, 1⟩, ⟨some 48, none, .load false 1 (.tmp 47), false, 0, 1⟩, ⟨some 49, none, .faddr 7 (.tmp 1), false, 0, 2⟩, ⟨some 50, none, .load false 1 (.tmp 49), false, 0, 2⟩, ⟨some 51, none,
    .faddr 8 (.tmp 1), false, 0, 3⟩, ⟨some 52, none, .load false 1 (.tmp 51), false, 0, 3⟩, ⟨some 53, none, .faddr 9 (.tmp 1), false, 0, 4⟩, ⟨some 54, none, .load false 1 (.tmp 53), false, 0, 4⟩, ⟨some 55, none, .faddr 2 (.tmp 4),
    false, 0, 0⟩, ⟨none, none, .store 1 (.tmp 55) (.tmp 46), true, 0, 0⟩, ⟨some 56, none, .faddr 6 (.tmp 4), false, 0, 0⟩, ⟨none, none, .store 1 (.tmp 56) (.tmp 48), true, 0, 0⟩, ⟨some 57, none, .faddr 7 (.tmp 4), false, 0, 0⟩,
    ⟨none, none, .store 1 (.tmp 57) (.tmp 50), true, 0, 0⟩, ⟨some 58, none, .faddr 8 (.tmp 4), false, 0, 0⟩, ⟨none, none, .store 1 (.tmp 58) (.tmp 52), true, 0, 0⟩, ⟨some 59, none, .faddr 9 (.tmp 4), false, 0, 0⟩, ⟨none, none,
    .store 1 (.tmp 59) (.tmp 54), true, 0, 0⟩]) (.seq (.quiet [⟨some 60, none, .faddr 10 (.tmp 1), false, 0, 0⟩, ⟨some 61, none, .load false 1 (.tmp 60), false, 0, 0⟩, ⟨some 62, none, .faddr 11 (.tmp 1), false, 0, 1⟩, ⟨some 63,
    none, .load false 1 (.tmp 62), false, 0, 1⟩, ⟨some 64, none, .faddr 12 (.tmp 1), false, 0, 2⟩, ⟨some 65, none, .load false 1 (.tmp 64), false, 0, 2⟩, ⟨some 66, none, .faddr 10 (.tmp 4), false, 0, 0⟩, ⟨none, none, .store 1 (.tmp
    66) (.tmp 61), true, 0, 0⟩, ⟨some 67, none, .faddr 11 (.tmp 4), false, 0, 0⟩, ⟨none, none, .store 1 (.tmp 67) (.tmp 63), true, 0, 0⟩, ⟨some 68, none, .faddr 12 (.tmp 4), false, 0, 0⟩, ⟨none, none, .store 1 (.tmp 68) (.tmp 65),
    true, 0, 0⟩]) (.region [⟨none, [(some 69, .faddr 6 (.tmp 1)), (some 70, .load false 1 (.tmp 69)), (some 71, .call 44 [.tmp 70, .con (.int .i64 2)]), (some 72, .mv (.tmp 71))]⟩, ⟨some (72, true), [(some 73, .faddr 7 (.tmp 1)),
    (some 74, .load false 1 (.tmp 73)), (some 75, .call 44 [.tmp 74, .con (.int .i64 3)])]⟩, ⟨none, [(some 76, .pick (.tmp 72) (.tmp 75) (.con (.bool false))), (some 77, .mv (.tmp 76))]⟩, ⟨some (77, true), [(some 78, .faddr 8 (.tmp
    1)), (some 79, .load false 1 (.tmp 78)), (some 80, .call 44 [.tmp 79, .con (.int .i64 2147483647)])]⟩, ⟨none, [(some 81, .pick (.tmp 77) (.tmp 80) (.con (.bool false))), (some 82, .mv (.tmp 81))]⟩, ⟨some (82, true), [(some 83,
    .faddr 9 (.tmp 1)), (some 84, .load false 1 (.tmp 83)), (some 85, .call 44 [.tmp 84, .con (.int .i64 2147483647)])]⟩, ⟨none, [(some 86, .pick (.tmp 82) (.tmp 85) (.con (.bool false))), (some 87, .mv (.tmp 86))]⟩, ⟨some (87,
    true), [(some 88, .faddr 11 (.tmp 1)), (some 89, .load false 1 (.tmp 88)), (some 90, .call 179 [.tmp 89])]⟩, ⟨none, [(some 91, .pick (.tmp 87) (.tmp 90) (.con (.bool false))), (some 5, .mv (.tmp 91))]⟩]))) (.seq (.region [⟨none,
    [(some 93, .faddr 1 (.tmp 1)), (some 94, .load false 1 (.tmp 93)), (some 95, .bin .eql (.tmp 94) (.con (.int .i64 6))), (some 92, .mv (.tmp 95))]⟩]) (.cond (.tmp 92) (.seq (.quiet [⟨some 96, none, .faddr 2 (.tmp 1), false, 0,
    0⟩, ⟨some 97, none, .load false 1 (.tmp 96), false, 0, 0⟩, ⟨some 98, none, .faddr 13 (.tmp 1), false, 0, 1⟩, ⟨some 99, none, .load false 1 (.tmp 98), false, 0, 1⟩, ⟨some 100, none, .faddr 2 (.tmp 4), false, 0, 0⟩, ⟨none, none,
    .store 1 (.tmp 100) (.tmp 97), true, 0, 0⟩, ⟨some 101, none, .faddr 13 (.tmp 4), false, 0, 0⟩, ⟨none, none, .store 1 (.tmp 101) (.tmp 99), true, 0, 0⟩]) (.region [⟨none, [(some 102, .faddr 13 (.tmp 1)), (some 103, .load false 1
    (.tmp 102)), (some 104, .call 180 [.tmp 103, .con (.fn (.func 181) [])]), (some 105, .un .not (.tmp 104)), (some 5, .mv (.tmp 105))]⟩])) (.seq (.region [⟨none, [(some 107, .faddr 1 (.tmp 1)), (some 108, .load false 1 (.tmp
    107)), (some 109, .bslice 3 1 [.con (.int .i64 8), .con (.int .i64 4)]), (some 110, .call 148 [.tmp 108, .tmp 109]), (some 106, .mv (.tmp 110))]⟩]) (.cond (.tmp 106) (.quiet [⟨some 111, none, .faddr 2 (.tmp 1), false, 0, 0⟩,
    ⟨some 112, none, .load false 1 (.tmp 111), false, 0, 0⟩, ⟨some 113, none, .faddr 14 (.tmp 1), false, 0, 1⟩, ⟨some 114, none, .load false 1 (.tmp 113), false, 0, 1⟩, ⟨some 115, none, .faddr 2 (.tmp 4), false, 0, 0⟩, ⟨none, none,
    .store 1 (.tmp 115) (.tmp 112), true, 0, 0⟩, ⟨some 116, none, .faddr 14 (.tmp 4), false, 0, 0⟩, ⟨none, none, .store 1 (.tmp 116) (.tmp 114), true, 0, 0⟩]) (.seq (.region [⟨none, [(some 118, .faddr 1 (.tmp 1)), (some 119, .load
    false 1 (.tmp 118)), (some 120, .bin .eql (.tmp 119) (.con (.int .i64 10))), (some 117, .mv (.tmp 120))]⟩]) (.cond (.tmp 117) (.region [⟨none, [(some 121, .faddr 2 (.tmp 1)), (some 122, .load false 1 (.tmp 121)), (some 123,
    .faddr 2 (.tmp 4)), (none, .store 1 (.tmp 123) (.tmp 122))]⟩]) (.seq (.region [⟨none, [(some 125, .faddr 1 (.tmp 1)), (some 126, .load false 1 (.tmp 125)), (some 127, .bin .eql (.tmp 126) (.con (.int .i64 12))), (some 124, .mv
    (.tmp 127))]⟩]) (.cond (.tmp 124) (.seq (.quiet [⟨some 128, none, .faddr 2 (.tmp 1), false, 0, 0⟩, ⟨some 129, none, .load false 1 (.tmp 128), false, 0, 0⟩, ⟨some 130, none, .faddr 15 (.tmp 1), false, 0, 1⟩, ⟨some 131, none,
    .load false 1 (.tmp 130), false, 0, 1⟩, ⟨some 132, none, .faddr 17 (.tmp 1), false, 0, 2⟩, ⟨some 133, none, .load false 1 (.tmp 132), false, 0, 2⟩, ⟨some 134, none, .faddr 18 (.tmp 1), false, 0, 3⟩, ⟨some 135, none, .load false
    1 (.tmp 134), false, 0, 3⟩, ⟨some 136, none, .faddr 16 (.tmp 1), false, 0, 4⟩, ⟨some 137, none, .load false 1 (.tmp 136), false, 0, 4⟩, ⟨some 138, none, .faddr 2 (.tmp 4), false, 0, 0⟩, ⟨none, none, .store 1 (.tmp 138) (.tmp
    129), true, 0, 0⟩, ⟨some 139, none, .faddr 15 (.tmp 4), false, 0, 0⟩, ⟨none, none, .store 1 (.tmp 139) (.tmp 131), true, 0, 0⟩, ⟨some 140, none, .faddr 17 (.tmp 4), false, 0, 0⟩, ⟨none, none, .store 1 (.tmp 140) (.tmp 133),
    true, 0, 0⟩, ⟨some 141, none, .faddr 18 (.tmp 4), false, 0, 0⟩, ⟨none, none, .store 1 (.tmp 141) (.tmp 135), true, 0, 0⟩, ⟨some 142, none, .faddr 16 (.tmp 4), false, 0, 0⟩, ⟨none, none, .store 1 (.tmp 142) (.tmp 137), true, 0,
    0⟩]) (.region [⟨none, [(some 143, .faddr 18 (.tmp 1)), (some 144, .load false 1 (.tmp 143)), (some 145, .mv (.tmp 144))]⟩, ⟨some (145, false), [(some 146, .faddr 16 (.tmp 1)), (some 147, .load false 1 (.tmp 146)), (some 148,
    .bin .eql (.tmp 147) (.con (.str [])))]⟩, ⟨none, [(some 149, .pick (.tmp 145) (.con (.bool true)) (.tmp 148)), (some 5, .mv (.tmp 149))]⟩])) (.seq (.region [⟨none, [(some 151, .faddr 1 (.tmp 1)), (some 152, .load false 1 (.tmp
    151)), (some 153, .bin .eql (.tmp 152) (.con (.int .i64 14))), (some 150, .mv (.tmp 153))]⟩]) (.cond (.tmp 150) (.quiet [⟨some 154, none, .faddr 2 (.tmp 1), false, 0, 0⟩, ⟨some 155, none, .load false 1 (.tmp 154), false, 0, 0⟩,
    ⟨some 156, none, .faddr 19 (.tmp 1), false, 0, 1⟩, ⟨some 157, none, .load false 1 (.tmp 156), false, 0, 1⟩, ⟨some 158, none, .faddr 20 (.tmp 1), false, 0, 2⟩, ⟨some 159, none, .load false 1 (.tmp 158), false, 0, 2⟩, ⟨some 160,
    none, .faddr 2 (.tmp 4), false, 0, 0⟩, ⟨none, none, .store 1 (.tmp 160) (.tmp 155), true, 0, 0⟩, ⟨some 161, none, .faddr 19 (.tmp 4), false, 0, 0⟩, ⟨none, none, .store 1 (.tmp 161) (.tmp 157), true, 0, 0⟩, ⟨some 162, none,
    .faddr 20 (.tmp 4), false, 0, 0⟩, ⟨none, none, .store 1 (.tmp 162) (.tmp 159), true, 0, 0⟩]) (.seq (.region [⟨none, [(some 164, .faddr 1 (.tmp 1)), (some 165, .load false 1 (.tmp 164)), (some 166, .bin .eql (.tmp 165) (.con
    (.int .i64 16))), (some 163, .mv (.tmp 166))]⟩]) (.cond (.tmp 163) (.seq (.region [⟨none, [(some 167, .faddr 23 (.tmp 1)), (some 168, .load false 1 (.tmp 167)), (some 169, .faddr 23 (.tmp 4)), (none, .store 1 (.tmp 169) (.tmp
    168))]⟩]) (.region [⟨none, [(some 170, .faddr 23 (.tmp 1)), (some 171, .load false 1 (.tmp 170)), (some 172, .call 44 [.tmp 171, .con (.int .i64 2147483647)]), (some 5, .mv (.tmp 172))]⟩])) (.seq (.region [⟨none, [(some 174,
    .faddr 1 (.tmp 1)), (some 175, .load false 1 (.tmp 174)), (some 176, .bin .eql (.tmp 175) (.con (.int .i64 23))), (some 173, .mv (.tmp 176))]⟩]) (.cond (.tmp 173) (.seq (.quiet [⟨some 177, none, .faddr 21 (.tmp 1), false, 0, 0⟩,
    ⟨some 178, none, .load false 1 (.tmp 177), false, 0, 0⟩, ⟨some 179, none, .faddr 22 (.tmp 1), false, 0, 1⟩, ⟨some 180, none, .load false 1 (.tmp 179), false, 0, 1⟩, ⟨some 181, none, .faddr 20 (.tmp 1), false, 0, 2⟩, ⟨some 182,
    none, .load false 1 (.tmp 181), false, 0, 2⟩, ⟨some 183, none, .faddr 21 (.tmp 4), false, 0, 0⟩, ⟨none, none, .store 1 (.tmp 183) (.tmp 178), true, 0, 0⟩, ⟨some 184, none, .faddr 22 (.tmp 4), false, 0, 0⟩, ⟨none, none, .store 1
    (.tmp 184) (.tmp 180), true, 0, 0⟩, ⟨some 185, none, .faddr 20 (.tmp 4), false, 0, 0⟩, ⟨none, none, .store 1 (.tmp 185) (.tmp 182), true, 0, 0⟩]) (.region [⟨none, [(some 186, .faddr 22 (.tmp 1)), (some 187, .load false 1 (.tmp
    186)), (some 188, .mv (.tmp 187))]⟩, ⟨some (188, false), [(some 189, .faddr 20 (.tmp 1)), (some 190, .load false 1 (.tmp 189)), (some 191, .bin .eql (.tmp 190) (.con (.str [])))]⟩, ⟨none, [(some 192, .pick (.tmp 188) (.con
    (.bool true)) (.tmp 191)), (some 5, .mv (.tmp 192))]⟩])) (.seq (.region [⟨none, [(some 194, .faddr 1 (.tmp 1)), (some 195, .load false 1 (.tmp 194)), (some 196, .call 182 [.tmp 195]), (some 193, .mv (.tmp 196))]⟩]) (.cond (.tmp
    193) (.seq (.quiet [⟨some 197, none, .faddr 24 (.tmp 1), false, 0, 0⟩, ⟨some 198, none, .load false 1 (.tmp 197), false, 0, 0⟩, ⟨some 199, none, .faddr 25 (.tmp 1), false, 0, 1⟩, ⟨some 200, none, .load false 1 (.tmp 199), false,
    0, 1⟩, ⟨some 201, none, .faddr 26 (.tmp 1), false, 0, 2⟩, ⟨some 202, none, .load false 1 (.tmp 201), false, 0, 2⟩, ⟨some 203, none, .faddr 24 (.tmp 4), false, 0, 0⟩, ⟨none, none, .store 1 (.tmp 203) (.tmp 198), true, 0, 0⟩,
    ⟨some 204, none, .faddr 25 (.tmp 4), false, 0, 0⟩, ⟨none, none, .store 1 (.tmp 204) (.tmp 200), true, 0, 0⟩, ⟨some 205, none, .faddr 26 (.tmp 4), false, 0, 0⟩, ⟨none, none, .store 1 (.tmp 205) (.tmp 202), true, 0, 0⟩]) (.seq
    (.region [⟨none, [(some 206, .faddr 24 (.tmp 1)), (some 207, .load false 1 (.tmp 206)), (some 208, .call 44 [.tmp 207, .con (.int .i64 2147483647)]), (some 5, .mv (.tmp 208))]⟩]) (.seq (.region [⟨none, [(some 209, .faddr 1 (.tmp
    1)), (some 210, .load false 1 (.tmp 209)), (some 211, .bin .eql (.tmp 210) (.con (.int .i64 24)))]⟩]) (.cond (.tmp 211) (.seq (.quiet [⟨some 212, none, .faddr 21 (.tmp 1), false, 0, 0⟩, ⟨some 213, none, .load false 1 (.tmp 212),
    false, 0, 0⟩, ⟨some 214, none, .faddr 22 (.tmp 1), false, 0, 1⟩, ⟨some 215, none, .load false 1 (.tmp 214), false, 0, 1⟩, ⟨some 216, none, .faddr 20 (.tmp 1), false, 0, 2⟩, ⟨some 217, none, .load false 1 (.tmp 216), false, 0,
    2⟩, ⟨some 218, none, .faddr 21 (.tmp 4), false, 0, 0⟩, ⟨none, none, .store 1 (.tmp 218) (.tmp 213), true, 0, 0⟩, ⟨some 219, none, .faddr 22 (.tmp 4), false, 0, 0⟩, ⟨none, none, .store 1 (.tmp 219) (.tmp 215), true, 0, 0⟩, ⟨some
    220, none, .faddr 20 (.tmp 4), false, 0, 0⟩, ⟨none, none, .store 1 (.tmp 220) (.tmp 217), true, 0, 0⟩]) (.region [⟨none, [(some 221, .mv (.tmp 5)), (some 222, .mv (.tmp 221))]⟩, ⟨some (222, true), [(some 223, .faddr 22 (.tmp
    1)), (some 224, .load false 1 (.tmp 223)), (some 225, .mv (.tmp 224))]⟩, ⟨some (225, false), [(some 226, .faddr 20 (.tmp 1)), (some 227, .load false 1 (.tmp 226)), (some 228, .bin .eql (.tmp 227) (.con (.str [])))]⟩, ⟨some (222,
    true), [(some 229, .pick (.tmp 225) (.con (.bool true)) (.tmp 228))]⟩, ⟨none, [(some 230, .pick (.tmp 222) (.tmp 229) (.con (.bool false))), (some 5, .mv (.tmp 230))]⟩])) .skip)))) (.region [⟨none, [(some 5, .mv (.con (.bool
    false)))]⟩])))))))))))))))))))))))) (.seq (.region [⟨none, [(some 231, .load true 28 (.tmp 4)), (some 232, .mv (.tmp 5)), (none, .store 28 (.tmp 2) (.tmp 231)), (some 3, .mv (.tmp 232))]⟩]) .ret))))
theorem lowm_bare : lowerFO [] prog 43 = some ⟨233, [LRes.cell 2 true 28, LRes.tmp 3], Bm_bare⟩ := by kernel_rfl

@[irreducible] def Bm_bare_1 : LCode :=
  .seq (.region [⟨none, [(some 1, .box 81 (.tmp 0)), (some 2, .mv (.con (.bool false)))]⟩]) (.seq (.region [⟨none, [(some 3, .faddr 0 (.tmp 1)), (some 4, .load false 1 (.tmp 3)), (some 5, .call 44 [.tmp 4, .con (.int .i64 2)]),
    (some 6, .un .not (.tmp 5)), (some 2, .mv (.tmp 6))]⟩]) .ret)
theorem lowm_bare_1 : lowerFO [] prog 181 = some ⟨7, [LRes.tmp 2], Bm_bare_1⟩ := by kernel_rfl

@[irreducible] def Bm_plain : LCode :=
  .seq (.region [⟨none, [(some 1, .box 28 (.tmp 0)), (some 2, .alloc 96 [.lit .nilIface, .lit .nilIface, .lit .nilIface, .lit .nilIface, .lit .nilIface, .lit .nilIface, .lit .nilIface, .lit .nilIface, .lit .nilIface, .lit .nilIface,
    .lit .nilIface, .lit .nilIface, .lit .nilIface, .lit .nilIface, .lit .nilIface, .lit .nilIface])]⟩]) (.seq (.region [⟨none, [(some 3, .faddr 3 (.tmp 1)), (some 4, .load false 1 (.tmp 3)), (some 5, .iface 3 (.tmp 4)), (some 6,
    .faddr 2 (.tmp 1)), (some 7, .load false 1 (.tmp 6)), (some 8, .iface 9 (.tmp 7)), (some 9, .faddr 4 (.tmp 1)), (some 10, .load false 1 (.tmp 9)), (some 11, .iface 4 (.tmp 10)), (some 12, .faddr 5 (.tmp 1)), (some 13, .load
    false 1 (.tmp 12)), (some 14, .iface 9 (.tmp 13)), (some 15, .faddr 6 (.tmp 1)), (some 16, .load false 1 (.tmp 15)), (some 17, .iface 3 (.tmp 16)), (some 18, .faddr 7 (.tmp 1)), (some 19, .load false 1 (.tmp 18)), (some 20,
    .iface 3 (.tmp 19)), (some 21, .faddr 8 (.tmp 1)), (some 22, .load false 1 (.tmp 21)), (some 23, .iface 3 (.tmp 22)), (some 24, .faddr 9 (.tmp 1)), (some 25, .load false 1 (.tmp 24)), (some 26, .iface 3 (.tmp 25)), (some 27,
    .faddr 10 (.tmp 1)), (some 28, .load false 1 (.tmp 27)), (some 29, .iface 4 (.tmp 28)), (some 30, .faddr 15 (.tmp 1)), (some 31, .load false 1 (.tmp 30)), (some 32, .faddr 16 (.tmp 1)), (some 33, .load false 1 (.tmp 32)), (some
    34, .faddr 19 (.tmp 1)), (some 35, .load false 1 (.tmp 34)), (some 36, .build [.str [], .str [], .str []] [(0, 1, .tmp 31), (1, 1, .tmp 33), (2, 1, .tmp 35)]), (some 37, .iface 192 (.tmp 36)), (some 38, .faddr 17 (.tmp 1)),
    (some 39, .load false 1 (.tmp 38)), (some 40, .faddr 18 (.tmp 1)), (some 41, .load false 1 (.tmp 40)), (some 42, .build [.bool false, .bool false] [(0, 1, .tmp 39), (1, 1, .tmp 41)]), (some 43, .iface 193 (.tmp 42)), (some 44,
    .faddr 20 (.tmp 1)), (some 45, .load false 1 (.tmp 44)), (some 46, .faddr 21 (.tmp 1)), (some 47, .load false 1 (.tmp 46)), (some 48, .build [.str [], .str []] [(0, 1, .tmp 45), (1, 1, .tmp 47)]), (some 49, .iface 194 (.tmp
    48)), (some 50, .faddr 22 (.tmp 1)), (some 51, .load false 1 (.tmp 50)), (some 52, .iface 4 (.tmp 51)), (some 53, .faddr 23 (.tmp 1)), (some 54, .load false 1 (.tmp 53)), (some 55, .iface 3 (.tmp 54)), (some 56, .faddr 24 (.tmp
    1)), (some 57, .load false 1 (.tmp 56)), (some 58, .iface 3 (.tmp 57)), (some 59, .faddr 25 (.tmp 1)), (some 60, .load false 1 (.tmp 59)), (some 61, .faddr 26 (.tmp 1)), (some 62, .load false 1 (.tmp 61)), (some 63, .build [.str
    [], .str []] [(0, 1, .tmp 60), (1, 1, .tmp 62)]), (some 64, .iface 194 (.tmp 63)), (some 65, .build [.lit .nilIface, .lit .nilIface, .lit .nilIface, .lit .nilIface, .lit .nilIface, .lit .nilIface, .lit .nilIface, .lit .nilIface,
    .lit .nilIface, .lit .nilIface, .lit .nilIface, .lit .nilIface, .lit .nilIface, .lit .nilIface, .lit .nilIface, .lit .nilIface] [(0, 1, .tmp 5), (1, 1, .tmp 8), (2, 1, .tmp 11), (3, 1, .tmp 14), (4, 1, .tmp 17), (5, 1, .tmp 20),
    (6, 1, .tmp 23), (7, 1, .tmp 26), (8, 1, .tmp 29), (9, 1, .tmp 37), (10, 1, .tmp 43), (11, 1, .tmp 49), (12, 1, .tmp 52), (13, 1, .tmp 55), (14, 1, .tmp 58), (15, 1, .tmp 64)]), (none, .store 16 (.tmp 2) (.tmp 65))]⟩]) .ret)
theorem lowm_plain : lowerFO [] prog 45 = some ⟨66, [LRes.cell 2 true 16], Bm_plain⟩ := by kernel_rfl

@[irreducible] def Bm_Valid : LCode :=
  .seq (.region [⟨none, [(some 1, .box 28 (.tmp 0)), (some 2, .mv (.con (.bool false)))]⟩]) (.seq (.region [⟨none, [(some 6, .load true 28 (.tmp 1)), (some 7, .call 43 [.tmp 6]), (some 5, .mv (.tmp 7)), (some 8, .extr 0 (.tmp 5)),
    (some 9, .extr 1 (.tmp 5)), (some 3, .alloc 28 [.int .i64 0, .int .i64 0, .str [], .int .i64 0, .bool false, .str [], .int .i64 0, .int .i64 0, .int .i64 0, .int .i64 0, .bool false, .lit (.slice none 0 0), .lit (.slice none 0
    0), .lit (.slice none 0 0), .lit (.slice none 0 0), .str [], .str [], .bool false, .bool false, .str [], .str [], .str [], .bool false, .int .i64 0, .int .i64 0, .str [], .str [], .lit (.slice none 0 0)]), (none, .store 28 (.tmp
    3) (.tmp 8)), (some 4, .mv (.tmp 9))]⟩]) (.seq (.block 0 (.seq (.quiet [⟨some 11, none, .mv (.tmp 4), false, 0, 0⟩, ⟨some 12, none, .un .not (.tmp 11), false, 0, 0⟩, ⟨some 13, none, .mv (.tmp 12), false, 0, 0⟩, ⟨some 14, some
    (13, false), .faddr 0 (.tmp 1), false, 0, 0⟩, ⟨some 15, some (13, false), .load false 1 (.tmp 14), false, 0, 0⟩, ⟨some 16, some (13, false), .call 44 [.tmp 15, .con (.int .i64 2147483647)], false, 0, 0⟩, ⟨some 17, some (13,
    false), .un .not (.tmp 16), false, 0, 0⟩, ⟨some 18, none, .pick (.tmp 13) (.con (.bool true)) (.tmp 17), false, 0, 0⟩, ⟨some 19, none, .mv (.tmp 18), false, 0, 0⟩, ⟨some 20, some (19, false), .load true 28 (.tmp 3), false, 0,
    0⟩, ⟨some 21, some (19, false), .call 45 [.tmp 20], false, 0, 0⟩, ⟨some 22, some (19, false), .load true 28 (.tmp 1), false, 0, 0⟩, ⟨some 23, some (19, false), .call 45 [.tmp 22], false, 0, 0⟩, ⟨some 24, some (19, false), .deq
    true [(2, 0, []), (3, 0, []), (4, 1, []), (5, 0, []), (6, 0, []), (9, 2, []), (10, 2, []), (11, 2, []), (12, 0, []), (21, 0, []), (32, 0, []), (192, 4, [(0, 2), (1, 2), (2, 2)]), (193, 4, [(0, 1), (1, 1)]), (194, 4, [(0, 2), (1,
    2)]), (269, 0, []), (271, 0, []), (350, 0, []), (359, 0, []), (360, 0, []), (362, 0, []), (363, 0, [])] [(0, 3), (1, 3), (2, 3), (3, 3), (4, 3), (5, 3), (6, 3), (7, 3), (8, 3), (9, 3), (10, 3), (11, 3), (12, 3), (13, 3), (14,
    3), (15, 3)] (.tmp 21) (.tmp 23), false, 0, 0⟩, ⟨some 25, none, .pick (.tmp 19) (.con (.bool true)) (.tmp 24), false, 0, 0⟩, ⟨some 10, none, .mv (.tmp 25), false, 0, 0⟩]) (.cond (.tmp 10) (.seq (.region [⟨none, [(some 2, .mv
    (.con (.bool false)))]⟩]) .ret) (.seq (.region [⟨none, [(some 27, .faddr 11 (.tmp 3)), (some 28, .load false 1 (.tmp 27)), (some 29, .len (.tmp 28)), (some 30, .faddr 11 (.tmp 1)), (some 31, .load false 1 (.tmp 30)), (some 32,
    .len (.tmp 31)), (some 33, .bin .neq (.tmp 29) (.tmp 32)), (some 34, .mv (.tmp 33))]⟩, ⟨some (34, false), [(some 35, .faddr 12 (.tmp 3)), (some 36, .load false 1 (.tmp 35)), (some 37, .len (.tmp 36)), (some 38, .faddr 12 (.tmp
    1)), (some 39, .load false 1 (.tmp 38)), (some 40, .len (.tmp 39)), (some 41, .bin .neq (.tmp 37) (.tmp 40))]⟩, ⟨none, [(some 42, .pick (.tmp 34) (.con (.bool true)) (.tmp 41)), (some 43, .mv (.tmp 42))]⟩, ⟨some (43, false),
    [(some 44, .faddr 13 (.tmp 3)), (some 45, .load false 1 (.tmp 44)), (some 46, .len (.tmp 45)), (some 47, .faddr 13 (.tmp 1)), (some 48, .load false 1 (.tmp 47)), (some 49, .len (.tmp 48)), (some 50, .bin .neq (.tmp 46) (.tmp
    49))]⟩, ⟨none, [(some 51, .pick (.tmp 43) (.con (.bool true)) (.tmp 50)), (some 52, .mv (.tmp 51))]⟩, ⟨some (52, false), [(some 53, .faddr 14 (.tmp 3)), (some 54, .load false 1 (.tmp 53)), (some 55, .len (.tmp 54)), (some 56,
    .faddr 14 (.tmp 1)), (some 57, .load false 1 (.tmp 56)), (some 58, .len (.tmp 57)), (some 59, .bin .neq (.tmp 55) (.tmp 58))]⟩, ⟨none, [(some 60, .pick (.tmp 52) (.con (.bool true)) (.tmp 59)), (some 26, .mv (.tmp 60))]⟩])
    (.cond (.tmp 26) (.seq (.region [⟨none, [(some 2, .mv (.con (.bool false)))]⟩]) .ret) .skip))))) (.seq (.region [⟨none, [(some 61, .faddr 27 (.tmp 1)), (some 62, .load false 1 (.tmp 61)), (some 63, .call 46 [.tmp 62, .con (.fn
    (.func 47) [])]), (some 64, .un .not (.tmp 63)), (some 2, .mv (.tmp 64))]⟩]) .ret)))
theorem lowm_Valid : lowerFO [] prog 15 = some ⟨65, [LRes.tmp 2], Bm_Valid⟩ := by kernel_rfl

@[irreducible] def Bm_Valid_1 : LCode :=
  .seq (.region [⟨none, [(some 1, .box 85 (.tmp 0)), (some 2, .mv (.con (.bool false)))]⟩]) (.seq (.region [⟨none, [(some 3, .faddr 2 (.tmp 1)), (some 4, .load false 1 (.tmp 3)), (some 5, .un .not (.tmp 4)), (some 6, .mv (.tmp
    5))]⟩, ⟨some (6, true), [(some 7, .faddr 3 (.tmp 1)), (some 8, .load false 1 (.tmp 7)), (some 9, .bin .neq (.tmp 8) (.con (.str [])))]⟩, ⟨none, [(some 10, .pick (.tmp 6) (.tmp 9) (.con (.bool false))), (some 2, .mv (.tmp
    10))]⟩]) .ret)
theorem lowm_Valid_1 : lowerFO [] prog 47 = some ⟨11, [LRes.tmp 2], Bm_Valid_1⟩ := by kernel_rfl

@[irreducible] def Bm_inRange : LCode :=
  .seq (.region [⟨none, [(some 4, .mv (.con (.bool false)))]⟩]) (.seq (.region [⟨none, [(some 5, .mv (.tmp 0)), (some 6, .bin .geq (.tmp 5) (.con (.int .i64 0))), (some 7, .mv (.tmp 6))]⟩, ⟨some (7, true), [(some 8, .mv (.tmp 0)),
    (some 9, .mv (.tmp 1)), (some 10, .bin .leq (.tmp 8) (.tmp 9))]⟩, ⟨none, [(some 11, .pick (.tmp 7) (.tmp 10) (.con (.bool false))), (some 4, .mv (.tmp 11))]⟩]) .ret)
theorem lowm_inRange : lowerFO [] prog 44 = some ⟨12, [LRes.tmp 4], Bm_inRange⟩ := by kernel_rfl

@[irreducible] def Bm_Write : LCode :=
  .seq (.region [⟨none, [(some 1, .box 28 (.tmp 0)), (some 2, .mv (.con (.str []))), (some 3, .mv (.con (.int .i64 0)))]⟩]) (.seq (.seq (.region [⟨none, [(some 4, .load true 28 (.tmp 1)), (some 5, .call 15 [.tmp 4]), (some 6, .un
    .not (.tmp 5))]⟩]) (.cond (.tmp 6) (.seq (.region [⟨none, [(some 2, .mv (.con (.str []))), (some 3, .mv (.con (.int .i64 70)))]⟩]) .ret) .skip)) (.seq (.region [⟨none, [(some 7, .load true 28 (.tmp 1)), (some 8, .call 35 [.tmp
    7]), (some 9, .call 34 [.tmp 8]), (some 10, .extr 0 (.tmp 9)), (some 11, .extr 1 (.tmp 9)), (some 2, .mv (.tmp 10)), (some 3, .mv (.tmp 11))]⟩]) .ret))
theorem lowm_Write : lowerFO [] prog 13 = some ⟨12, [LRes.tmp 2, LRes.tmp 3], Bm_Write⟩ := by kernel_rfl

@[irreducible] def Bm_element : LCode :=
  .seq (.region [⟨none, [(some 1, .box 28 (.tmp 0)), (some 2, .alloc 68 [.int .i64 0, .int .i64 0, .bool false, .str [], .lit (.slice none 0 0)])]⟩]) (.seq (.quiet [⟨some 8, none, .faddr 0 (.tmp 1), false, 0, 1⟩, ⟨some 9, none,
    .load false 1 (.tmp 8), false, 0, 1⟩, ⟨some 10, none, .call 161 [.con (.int .i64 2), .tmp 9], false, 0, 0⟩, ⟨some 11, none, .load true 28 (.tmp 1), false, 0, 1⟩, ⟨some 12, none, .call 162 [.tmp 11], false, 0, 0⟩, ⟨some 13, none,
    .brow 68 5 [.tmp 10, .tmp 12], true, 0, 0⟩, ⟨some 3, none, .mv (.tmp 13), false, 0, 0⟩]) (.seq (.region [⟨none, [(some 4, .mv (.con (.lit (.slice none 0 0))))]⟩]) (.seq (.seq (.region [⟨none, [(some 14, .faddr 27 (.tmp 1)),
    (some 15, .load false 1 (.tmp 14)), (some 16, .len (.tmp 15)), (some 17, .mv (.con (.int .i64 0)))]⟩]) (.block 0 (.loop (.seq (.region [⟨none, [(some 18, .bin .lss (.tmp 17) (.tmp 16))]⟩]) (.seq (.cond (.tmp 18) .skip (.exit 0))
    (.seq (.block 1 (.seq (.region [⟨none, [(some 19, .iaddr 4 (.tmp 15) (.tmp 17)), (some 20, .load true 4 (.tmp 19)), (some 6, .alloc 85 [.str [], .bool false, .bool false, .str []]), (none, .store 4 (.tmp 6) (.tmp 20))]⟩]) (.seq
    (.region [⟨none, [(some 21, .faddr 0 (.tmp 6)), (some 22, .load false 1 (.tmp 21)), (some 23, .call 163 [.tmp 22]), (some 24, .brow 68 5 [.tmp 23]), (some 7, .mv (.tmp 24))]⟩]) (.seq (.seq (.region [⟨none, [(some 25, .faddr 1
    (.tmp 6)), (some 26, .load false 1 (.tmp 25))]⟩]) (.cond (.tmp 26) (.region [⟨none, [(some 27, .mv (.tmp 7)), (some 28, .call 164 [.con (.int .i64 1), .con (.bool true)]), (some 29, .bslice 68 5 [.tmp 28]), (some 30, .append
    false 68 5 64 (.tmp 27) (.tmp 29)), (some 7, .mv (.tmp 30))]⟩]) .skip)) (.seq (.seq (.region [⟨none, [(some 31, .faddr 2 (.tmp 6)), (some 32, .load false 1 (.tmp 31))]⟩]) (.cond (.tmp 32) (.region [⟨none, [(some 33, .mv (.tmp
    7)), (some 34, .faddr 3 (.tmp 6)), (some 35, .load false 1 (.tmp 34)), (some 36, .call 163 [.tmp 35]), (some 37, .bslice 68 5 [.tmp 36]), (some 38, .append false 68 5 64 (.tmp 33) (.tmp 37)), (some 7, .mv (.tmp 38))]⟩]) .skip))
    (.region [⟨none, [(some 39, .mv (.tmp 4)), (some 40, .mv (.tmp 7)), (some 41, .call 165 [.tmp 40]), (some 42, .bslice 68 5 [.tmp 41]), (some 43, .append false 68 5 64 (.tmp 39) (.tmp 42)), (some 4, .mv (.tmp 43))]⟩]))))))
    (.region [⟨none, [(some 44, .bin .add (.tmp 17) (.con (.int .i64 1))), (some 17, .mv (.tmp 44))]⟩]))))))) (.seq (.seq (.region [⟨none, [(some 45, .mv (.tmp 4)), (some 46, .len (.tmp 45)), (some 47, .bin .gtr (.tmp 46) (.con
    (.int .i64 0)))]⟩]) (.cond (.tmp 47) (.region [⟨none, [(some 48, .mv (.tmp 3)), (some 49, .mv (.tmp 4)), (some 50, .call 165 [.tmp 49]), (some 51, .call 166 [.con (.int .i64 0), .tmp 50]), (some 52, .bslice 68 5 [.tmp 51]),
    (some 53, .append false 68 5 64 (.tmp 48) (.tmp 52)), (some 3, .mv (.tmp 53))]⟩]) .skip)) (.seq (.region [⟨none, [(some 54, .mv (.tmp 3)), (some 55, .call 165 [.tmp 54]), (none, .store 5 (.tmp 2) (.tmp 55))]⟩]) .ret)))))
theorem lowm_element : lowerFO [13, 24] prog 35 = some ⟨56, [LRes.cell 2 true 5], Bm_element⟩ := by kernel_rfl

@[irreducible] def Bm_op : LCode :=
  .seq (.region [⟨none, [(some 1, .box 28 (.tmp 0)), (some 2, .alloc 68 [.int .i64 0, .int .i64 0, .bool false, .str [], .lit (.slice none 0 0)])]⟩]) (.seq (.region [⟨none, [(some 3, .mv (.con (.fn (.func 250) [])))]⟩]) (.seq (.draw
    [⟨some 7, none, .mkmap, true, 0, 0⟩, ⟨some 8, none, .mkfn (.func 252) [.tmp 1], false, 1, 0⟩, ⟨none, none, .mins (.tmp 7) (.con (.int .i64 0)) (.tmp 8), false, 0, 0⟩, ⟨none, none, .mins (.tmp 7) (.con (.int .i64 2)) (.con (.fn
    (.func 253) [])), false, 0, 0⟩, ⟨some 9, none, .mkfn (.func 254) [.tmp 1], false, 1, 0⟩, ⟨none, none, .mins (.tmp 7) (.con (.int .i64 3)) (.tmp 9), false, 0, 0⟩, ⟨some 10, none, .mv (.tmp 3), false, 1, 0⟩, ⟨some 11, none, .faddr
    2 (.tmp 1), false, 1, 0⟩, ⟨some 12, none, .load false 1 (.tmp 11), false, 1, 0⟩, ⟨some 13, none, .call 163 [.tmp 12], false, 1, 0⟩, ⟨some 14, none, .faddr 13 (.tmp 1), false, 1, 0⟩, ⟨some 15, none, .load false 1 (.tmp 14),
    false, 1, 0⟩, ⟨some 16, none, .call 257 [.tmp 15], false, 1, 0⟩, ⟨some 17, none, .bslice 68 5 [.tmp 13, .tmp 16], false, 1, 0⟩, ⟨some 18, none, .callv (.tmp 10) [.tmp 17], false, 1, 0⟩, ⟨none, none, .mins (.tmp 7) (.con (.int
    .i64 6)) (.tmp 18), false, 0, 0⟩, ⟨some 19, none, .mv (.tmp 3), false, 1, 0⟩, ⟨some 20, none, .faddr 2 (.tmp 1), false, 1, 0⟩, ⟨some 21, none, .load false 1 (.tmp 20), false, 1, 0⟩, ⟨some 22, none, .call 163 [.tmp 21], false, 1,
    0⟩, ⟨some 23, none, .faddr 14 (.tmp 1), false, 1, 0⟩, ⟨some 24, none, .load false 1 (.tmp 23), false, 1, 0⟩, ⟨some 25, none, .call 258 [.tmp 24], false, 1, 0⟩, ⟨some 26, none, .bslice 68 5 [.tmp 22, .tmp 25], false, 1, 0⟩, ⟨some
    27, none, .callv (.tmp 19) [.tmp 26], false, 1, 0⟩, ⟨none, none, .mins (.tmp 7) (.con (.int .i64 8)) (.tmp 27), false, 0, 0⟩, ⟨some 28, none, .mv (.tmp 3), false, 1, 0⟩, ⟨some 29, none, .faddr 2 (.tmp 1), false, 1, 0⟩, ⟨some 30,
    none, .load false 1 (.tmp 29), false, 1, 0⟩, ⟨some 31, none, .call 163 [.tmp 30], false, 1, 0⟩, ⟨some 32, none, .faddr 14 (.tmp 1), false, 1, 0⟩, ⟨some 33, none, .load false 1 (.tmp 32), false, 1, 0⟩, ⟨some 34, none, .call 258
    [.tmp 33], false, 1, 0⟩, ⟨some 35, none, .bslice 68 5 [.tmp 31, .tmp 34], false, 1, 0⟩, ⟨some 36, none, .callv (.tmp 28) [.tmp 35], false, 1, 0⟩, ⟨none, none, .mins (.tmp 7) (.con (.int .i64 4)) (.tmp 36), false, 0, 0⟩, ⟨some
    37, none, .mkfn (.func 259) [.tmp 1], false, 1, 0⟩, ⟨none, none, .mins (.tmp 7) (.con (.int .i64 10)) (.tmp 37), false, 0, 0⟩, ⟨some 38, none, .mkfn (.func 260) [.tmp 1], false, 1, 0⟩, ⟨none, none, .mins (.tmp 7) (.con (.int
    .i64 12)) (.tmp 38), false, 0, 0⟩, ⟨some 39, none, .mv (.tmp 3), false, 1, 0⟩, ⟨some 40, none, .faddr 2 (.tmp 1), false, 1, 0⟩, ⟨some 41, none, .load false 1 (.tmp 40), false, 1, 0⟩, ⟨some 42, none, .call 163 [.tmp 41], false,
    1, 0⟩, ⟨some 43, none, .faddr 19 (.tmp 1), false, 1, 0⟩, ⟨some 44, none, .load false 1 (.tmp 43), false, 1, 0⟩, ⟨some 45, none, .call 163 [.tmp 44], false, 1, 0⟩, ⟨some 46, none, .faddr 20 (.tmp 1), false, 1, 0⟩, ⟨some 47, none,
    .load false 1 (.tmp 46), false, 1, 0⟩, ⟨some 48, none, .call 163 [.tmp 47], false, 1, 0⟩, ⟨some 49, none, .bslice 68 5 [.tmp 45, .tmp 48], false, 1, 0⟩, ⟨some 50, none, .call 165 [.tmp 49], false, 1, 0⟩, ⟨some 51, none, .bslice
    68 5 [.tmp 42, .tmp 50], false, 1, 0⟩, ⟨some 52, none, .callv (.tmp 39) [.tmp 51], false, 1, 0⟩, ⟨none, none, .mins (.tmp 7) (.con (.int .i64 14)) (.tmp 52), false, 0, 0⟩, ⟨some 53, none, .mkfn (.func 261) [.tmp 1], false, 1,
    0⟩, ⟨none, none, .mins (.tmp 7) (.con (.int .i64 16)) (.tmp 53), false, 0, 0⟩, ⟨some 54, none, .mkfn (.func 262) [.tmp 1], false, 1, 0⟩, ⟨none, none, .mins (.tmp 7) (.con (.int .i64 23)) (.tmp 54), false, 0, 0⟩, ⟨some 55, none,
    .mv (.tmp 7), false, 0, 0⟩, ⟨some 4, none, .mv (.tmp 55), false, 0, 0⟩]) (.seq (.region [⟨none, [(some 57, .mv (.tmp 4)), (some 58, .faddr 1 (.tmp 1)), (some 59, .load false 1 (.tmp 58)), (some 60, .mget (.lit .nilFunc) (.tmp
    57) (.tmp 59)), (some 56, .mv (.tmp 60)), (some 61, .extr 0 (.tmp 56)), (some 62, .extr 1 (.tmp 56)), (some 5, .mv (.tmp 61)), (some 6, .mv (.tmp 62))]⟩]) (.seq (.seq (.region [⟨none, [(some 63, .mv (.tmp 6)), (some 64, .un .not
    (.tmp 63))]⟩]) (.cond (.tmp 64) (.region [⟨none, [(some 65, .mv (.tmp 3)), (some 66, .load true 28 (.tmp 1)), (some 67, .call 263 [.tmp 66]), (some 68, .callv (.tmp 65) [.tmp 67]), (some 5, .mv (.tmp 68))]⟩]) .skip)) (.seq
    (.quiet [⟨some 69, none, .mv (.tmp 5), false, 0, 0⟩, ⟨some 70, none, .callv (.tmp 69) [], false, 0, 0⟩, ⟨some 71, none, .faddr 1 (.tmp 1), false, 0, 0⟩, ⟨some 72, none, .load false 1 (.tmp 71), false, 0, 0⟩, ⟨some 73, none,
    .call 264 [.tmp 70, .con (.int .i64 1), .tmp 72], false, 0, 0⟩, ⟨none, none, .store 5 (.tmp 2) (.tmp 73), true, 0, 0⟩]) .ret)))))
theorem lowm_op : lowerFO [] prog 162 = some ⟨74, [LRes.cell 2 true 5], Bm_op⟩ := by kernel_rfl

@[irreducible] def Bm_op_1 : LCode :=
  .seq (.region [⟨none, [(some 1, .box 66 (.tmp 0)), (some 2, .mv (.con (.lit .nilFunc)))]⟩]) (.seq (.region [⟨none, [(some 3, .mkfn (.func 251) [.tmp 1]), (some 2, .mv (.tmp 3))]⟩]) .ret)
theorem lowm_op_1 : lowerFO [] prog 250 = some ⟨4, [LRes.tmp 2], Bm_op_1⟩ := by kernel_rfl

@[irreducible] def Bm_op_1_1 : LCode :=
  .seq (.region [⟨none, [(some 1, .alloc 68 [.int .i64 0, .int .i64 0, .bool false, .str [], .lit (.slice none 0 0)])]⟩]) (.seq (.region [⟨none, [(some 2, .load false 1 (.tmp 0)), (some 3, .call 165 [.tmp 2]), (none, .store 5 (.tmp
    1) (.tmp 3))]⟩]) .ret)
theorem lowm_op_1_1 : lowerFO [] prog 251 = some ⟨4, [LRes.cell 1 true 5], Bm_op_1_1⟩ := by kernel_rfl

@[irreducible] def Bm_op_2 : LCode :=
  .seq (.region [⟨none, [(some 1, .alloc 68 [.int .i64 0, .int .i64 0, .bool false, .str [], .lit (.slice none 0 0)])]⟩]) (.seq (.region [⟨none, [(some 3, .faddr 5 (.tmp 0)), (some 4, .load false 1 (.tmp 3)), (some 5, .call 163
    [.tmp 4]), (some 6, .call 166 [.con (.int .i64 0), .tmp 5]), (some 2, .alloc 68 [.int .i64 0, .int .i64 0, .bool false, .str [], .lit (.slice none 0 0)]), (none, .store 5 (.tmp 2) (.tmp 6))]⟩]) (.seq (.seq (.region [⟨none,
    [(some 7, .faddr 4 (.tmp 0)), (some 8, .load false 1 (.tmp 7))]⟩]) (.cond (.tmp 8) (.region [⟨none, [(some 9, .faddr 5 (.tmp 0)), (some 10, .load false 1 (.tmp 9)), (some 11, .call 163 [.tmp 10]), (some 12, .bslice 68 5 [.tmp
    11]), (some 13, .call 165 [.tmp 12]), (some 14, .call 166 [.con (.int .i64 3), .tmp 13]), (none, .store 5 (.tmp 2) (.tmp 14))]⟩]) .skip)) (.seq (.quiet [⟨some 15, none, .faddr 3 (.tmp 0), false, 0, 0⟩, ⟨some 16, none, .load
    false 1 (.tmp 15), false, 0, 0⟩, ⟨some 17, none, .call 161 [.con (.int .i64 2), .tmp 16], false, 0, 0⟩, ⟨some 18, none, .faddr 2 (.tmp 0), false, 0, 0⟩, ⟨some 19, none, .load false 1 (.tmp 18), false, 0, 0⟩, ⟨some 20, none,
    .call 163 [.tmp 19], false, 0, 0⟩, ⟨some 21, none, .load true 5 (.tmp 2), false, 0, 0⟩, ⟨some 22, none, .bslice 68 5 [.tmp 17, .tmp 20, .tmp 21], false, 0, 0⟩, ⟨some 23, none, .call 165 [.tmp 22], false, 0, 0⟩, ⟨none, none,
    .store 5 (.tmp 1) (.tmp 23), true, 0, 0⟩]) .ret)))
theorem lowm_op_2 : lowerFO [] prog 252 = some ⟨24, [LRes.cell 1 true 5], Bm_op_2⟩ := by kernel_rfl

@[irreducible] def Bm_op_3 : LCode :=
  .seq (.region [⟨none, [(some 0, .alloc 68 [.int .i64 0, .int .i64 0, .bool false, .str [], .lit (.slice none 0 0)])]⟩]) (.seq (.region [⟨none, [(some 1, .call 163 [.con (.str [])]), (none, .store 5 (.tmp 0) (.tmp 1))]⟩]) .ret)
theorem lowm_op_3 : lowerFO [] prog 253 = some ⟨2, [LRes.cell 0 true 5], Bm_op_3⟩ := by kernel_rfl

@[irreducible] def Bm_op_4 : LCode :=
  .seq (.region [⟨none, [(some 1, .alloc 68 [.int .i64 0, .int .i64 0, .bool false, .str [], .lit (.slice none 0 0)])]⟩]) (.seq (.region [⟨none, [(some 5, .faddr 11 (.tmp 0)), (some 6, .load false 1 (.tmp 5)), (some 7, .call 255
    [.tmp 6]), (some 4, .mv (.tmp 7)), (some 8, .extr 0 (.tmp 4)), (some 9, .extr 1 (.tmp 4)), (some 2, .alloc 68 [.int .i64 0, .int .i64 0, .bool false, .str [], .lit (.slice none 0 0)]), (none, .store 5 (.tmp 2) (.tmp 8)), (some
    3, .mv (.tmp 9))]⟩]) (.seq (.quiet [⟨some 10, none, .faddr 2 (.tmp 0), false, 0, 0⟩, ⟨some 11, none, .load false 1 (.tmp 10), false, 0, 0⟩, ⟨some 12, none, .call 163 [.tmp 11], false, 0, 0⟩, ⟨some 13, none, .faddr 6 (.tmp 0),
    false, 0, 0⟩, ⟨some 14, none, .load false 1 (.tmp 13), false, 0, 0⟩, ⟨some 15, none, .call 161 [.con (.int .i64 10), .tmp 14], false, 0, 0⟩, ⟨some 16, none, .faddr 7 (.tmp 0), false, 0, 0⟩, ⟨some 17, none, .load false 1 (.tmp
    16), false, 0, 0⟩, ⟨some 18, none, .call 161 [.con (.int .i64 10), .tmp 17], false, 0, 0⟩, ⟨some 19, none, .faddr 8 (.tmp 0), false, 0, 0⟩, ⟨some 20, none, .load false 1 (.tmp 19), false, 0, 0⟩, ⟨some 21, none, .call 161 [.con
    (.int .i64 2), .tmp 20], false, 0, 0⟩, ⟨some 22, none, .faddr 9 (.tmp 0), false, 0, 0⟩, ⟨some 23, none, .load false 1 (.tmp 22), false, 0, 0⟩, ⟨some 24, none, .call 161 [.con (.int .i64 2), .tmp 23], false, 0, 0⟩, ⟨some 25,
    none, .faddr 10 (.tmp 0), false, 0, 0⟩, ⟨some 26, none, .load false 1 (.tmp 25), false, 0, 0⟩, ⟨some 27, none, .call 164 [.con (.int .i64 1), .tmp 26], false, 0, 0⟩, ⟨some 28, none, .load true 5 (.tmp 2), false, 0, 0⟩, ⟨some 29,
    none, .faddr 12 (.tmp 0), false, 0, 0⟩, ⟨some 30, none, .load false 1 (.tmp 29), false, 0, 0⟩, ⟨some 31, none, .call 256 [.tmp 30], false, 0, 0⟩, ⟨some 32, none, .call 165 [.tmp 31], false, 0, 0⟩, ⟨some 33, none, .bslice 68 5
    [.tmp 12, .tmp 15, .tmp 18, .tmp 21, .tmp 24, .tmp 27, .tmp 28, .tmp 32], false, 0, 0⟩, ⟨some 34, none, .call 165 [.tmp 33], false, 0, 0⟩, ⟨none, none, .store 5 (.tmp 1) (.tmp 34), true, 0, 0⟩]) .ret))
theorem lowm_op_4 : lowerFO [] prog 254 = some ⟨35, [LRes.cell 1 true 5], Bm_op_4⟩ := by kernel_rfl

@[irreducible] def Bm_op_5 : LCode :=
  .seq (.region [⟨none, [(some 1, .alloc 68 [.int .i64 0, .int .i64 0, .bool false, .str [], .lit (.slice none 0 0)])]⟩]) (.seq (.region [⟨none, [(some 2, .faddr 2 (.tmp 0)), (some 3, .load false 1 (.tmp 2)), (some 4, .call 163
    [.tmp 3]), (none, .store 5 (.tmp 1) (.tmp 4))]⟩]) .ret)
theorem lowm_op_5 : lowerFO [] prog 259 = some ⟨5, [LRes.cell 1 true 5], Bm_op_5⟩ := by kernel_rfl

@[irreducible] def Bm_op_6 : LCode :=
  .seq (.region [⟨none, [(some 1, .alloc 68 [.int .i64 0, .int .i64 0, .bool false, .str [], .lit (.slice none 0 0)])]⟩]) (.seq (.quiet [⟨some 3, none, .faddr 2 (.tmp 0), false, 0, 1⟩, ⟨some 4, none, .load false 1 (.tmp 3), false,
    0, 1⟩, ⟨some 5, none, .call 163 [.tmp 4], false, 0, 0⟩, ⟨some 6, none, .faddr 15 (.tmp 0), false, 0, 1⟩, ⟨some 7, none, .load false 1 (.tmp 6), false, 0, 1⟩, ⟨some 8, none, .call 163 [.tmp 7], false, 0, 0⟩, ⟨some 9, none, .faddr
    17 (.tmp 0), false, 0, 1⟩, ⟨some 10, none, .load false 1 (.tmp 9), false, 0, 1⟩, ⟨some 11, none, .call 164 [.con (.int .i64 1), .tmp 10], false, 0, 0⟩, ⟨some 12, none, .brow 68 5 [.tmp 5, .tmp 8, .tmp 11], true, 0, 0⟩, ⟨some 2,
    none, .mv (.tmp 12), false, 0, 0⟩]) (.seq (.seq (.region [⟨none, [(some 13, .faddr 18 (.tmp 0)), (some 14, .load false 1 (.tmp 13))]⟩]) (.cond (.tmp 14) (.region [⟨none, [(some 15, .mv (.tmp 2)), (some 16, .faddr 16 (.tmp 0)),
    (some 17, .load false 1 (.tmp 16)), (some 18, .call 163 [.tmp 17]), (some 19, .call 166 [.con (.int .i64 0), .tmp 18]), (some 20, .bslice 68 5 [.tmp 19]), (some 21, .append false 68 5 64 (.tmp 15) (.tmp 20)), (some 2, .mv (.tmp
    21))]⟩]) .skip)) (.seq (.region [⟨none, [(some 22, .mv (.tmp 2)), (some 23, .call 165 [.tmp 22]), (none, .store 5 (.tmp 1) (.tmp 23))]⟩]) .ret)))
theorem lowm_op_6 : lowerFO [12] prog 260 = some ⟨24, [LRes.cell 1 true 5], Bm_op_6⟩ := by kernel_rfl

@[irreducible] def Bm_op_7 : LCode :=
  .seq (.region [⟨none, [(some 1, .alloc 68 [.int .i64 0, .int .i64 0, .bool false, .str [], .lit (.slice none 0 0)])]⟩]) (.seq (.region [⟨none, [(some 2, .faddr 23 (.tmp 0)), (some 3, .load false 1 (.tmp 2)), (some 4, .call 161
    [.con (.int .i64 2), .tmp 3]), (none, .store 5 (.tmp 1) (.tmp 4))]⟩]) .ret)
theorem lowm_op_7 : lowerFO [] prog 261 = some ⟨5, [LRes.cell 1 true 5], Bm_op_7⟩ := by kernel_rfl

@[irreducible] def Bm_op_8 : LCode :=
  .seq (.region [⟨none, [(some 1, .alloc 68 [.int .i64 0, .int .i64 0, .bool false, .str [], .lit (.slice none 0 0)])]⟩]) (.seq (.region [⟨none, [(some 3, .faddr 21 (.tmp 0)), (some 4, .load false 1 (.tmp 3)), (some 5, .call 163
    [.tmp 4]), (some 6, .call 166 [.con (.int .i64 0), .tmp 5]), (some 7, .brow 68 5 [.tmp 6]), (some 2, .mv (.tmp 7))]⟩]) (.seq (.seq (.region [⟨none, [(some 8, .faddr 22 (.tmp 0)), (some 9, .load false 1 (.tmp 8))]⟩]) (.cond (.tmp
    9) (.region [⟨none, [(some 10, .mv (.tmp 2)), (some 11, .faddr 20 (.tmp 0)), (some 12, .load false 1 (.tmp 11)), (some 13, .call 163 [.tmp 12]), (some 14, .call 166 [.con (.int .i64 1), .tmp 13]), (some 15, .bslice 68 5 [.tmp
    14]), (some 16, .append false 68 5 64 (.tmp 10) (.tmp 15)), (some 2, .mv (.tmp 16))]⟩]) .skip)) (.seq (.region [⟨none, [(some 17, .mv (.tmp 2)), (some 18, .call 165 [.tmp 17]), (none, .store 5 (.tmp 1) (.tmp 18))]⟩]) .ret)))
theorem lowm_op_8 : lowerFO [7] prog 262 = some ⟨19, [LRes.cell 1 true 5], Bm_op_8⟩ := by kernel_rfl

@[irreducible] def Bm_str : LCode :=
  .seq (.region [⟨none, [(some 2, .alloc 68 [.int .i64 0, .int .i64 0, .bool false, .str [], .lit (.slice none 0 0)])]⟩]) (.seq (.region [⟨none, [(some 3, .mv (.tmp 0)), (some 4, .call 248 [.con (.int .i64 4), .tmp 3]), (none,
    .store 5 (.tmp 2) (.tmp 4))]⟩]) .ret)
theorem lowm_str : lowerFO [] prog 163 = some ⟨5, [LRes.cell 2 true 5], Bm_str⟩ := by kernel_rfl

@[irreducible] def Bm_ctx : LCode :=
  .seq (.region [⟨none, [(some 3, .box 68 (.tmp 1)), (some 4, .alloc 68 [.int .i64 0, .int .i64 0, .bool false, .str [], .lit (.slice none 0 0)])]⟩]) (.seq (.region [⟨none, [(some 5, .load true 5 (.tmp 3)), (some 6, .mv (.tmp 0)),
    (some 7, .call 264 [.tmp 5, .con (.int .i64 2), .tmp 6]), (none, .store 5 (.tmp 4) (.tmp 7))]⟩]) .ret)
theorem lowm_ctx : lowerFO [] prog 166 = some ⟨8, [LRes.cell 4 true 5], Bm_ctx⟩ := by kernel_rfl

@[irreducible] def Bm_strs : LCode :=
  .seq (.region [⟨none, [(some 2, .mv (.con (.lit (.slice none 0 0))))]⟩]) (.seq (.region [⟨none, [(some 3, .mv (.con (.lit (.slice none 0 0))))]⟩]) (.seq (.seq (.region [⟨none, [(some 6, .mv (.tmp 0)), (some 7, .len (.tmp 6)),
    (some 8, .mv (.con (.int .i64 0)))]⟩]) (.block 0 (.loop (.seq (.region [⟨none, [(some 9, .bin .lss (.tmp 8) (.tmp 7))]⟩]) (.seq (.cond (.tmp 9) .skip (.exit 0)) (.seq (.block 1 (.seq (.region [⟨none, [(some 10, .iaddr 1 (.tmp 6)
    (.tmp 8)), (some 11, .load false 1 (.tmp 10)), (some 5, .mv (.tmp 11))]⟩]) (.region [⟨none, [(some 12, .mv (.tmp 3)), (some 13, .mv (.tmp 5)), (some 14, .call 163 [.tmp 13]), (some 15, .bslice 68 5 [.tmp 14]), (some 16, .append
    false 68 5 64 (.tmp 12) (.tmp 15)), (some 3, .mv (.tmp 16))]⟩]))) (.region [⟨none, [(some 17, .bin .add (.tmp 8) (.con (.int .i64 1))), (some 8, .mv (.tmp 17))]⟩]))))))) (.seq (.region [⟨none, [(some 18, .mv (.tmp 3)), (some 2,
    .mv (.tmp 18))]⟩]) .ret)))
theorem lowm_strs : lowerFO [] prog 256 = some ⟨19, [LRes.tmp 2], Bm_strs⟩ := by kernel_rfl

@[irreducible] def Bm_attr : LCode :=
  .seq (.region [⟨none, [(some 4, .alloc 68 [.int .i64 0, .int .i64 0, .bool false, .str [], .lit (.slice none 0 0)])]⟩]) (.seq (.region [⟨none, [(some 5, .mv (.tmp 0)), (some 6, .call 163 [.tmp 5]), (some 7, .mv (.tmp 1)), (some 8,
    .call 256 [.tmp 7]), (some 9, .call 165 [.tmp 8]), (some 10, .call 264 [.tmp 9, .con (.int .i64 0), .con (.int .i64 17)]), (some 11, .bslice 68 5 [.tmp 6, .tmp 10]), (some 12, .call 165 [.tmp 11]), (none, .store 5 (.tmp 4) (.tmp
    12))]⟩]) .ret)
theorem lowm_attr : lowerFO [] prog 310 = some ⟨13, [LRes.cell 4 true 5], Bm_attr⟩ := by kernel_rfl

@[irreducible] def Bm_attrs : LCode :=
  .seq (.region [⟨none, [(some 2, .alloc 68 [.int .i64 0, .int .i64 0, .bool false, .str [], .lit (.slice none 0 0)])]⟩]) (.seq (.region [⟨none, [(some 3, .mv (.con (.lit (.slice none 0 0))))]⟩]) (.seq (.seq (.region [⟨none, [(some
    6, .mv (.tmp 0)), (some 7, .len (.tmp 6)), (some 8, .mv (.con (.int .i64 0)))]⟩]) (.block 0 (.loop (.seq (.region [⟨none, [(some 9, .bin .lss (.tmp 8) (.tmp 7))]⟩]) (.seq (.cond (.tmp 9) .skip (.exit 0)) (.seq (.block 1 (.seq
    (.region [⟨none, [(some 10, .iaddr 2 (.tmp 6) (.tmp 8)), (some 11, .load true 2 (.tmp 10)), (some 5, .alloc 79 [.str [], .lit (.slice none 0 0)]), (none, .store 2 (.tmp 5) (.tmp 11))]⟩]) (.region [⟨none, [(some 12, .mv (.tmp
    3)), (some 13, .faddr 0 (.tmp 5)), (some 14, .load false 1 (.tmp 13)), (some 15, .faddr 1 (.tmp 5)), (some 16, .load false 1 (.tmp 15)), (some 17, .call 310 [.tmp 14, .tmp 16]), (some 18, .bslice 68 5 [.tmp 17]), (some 19,
    .append false 68 5 64 (.tmp 12) (.tmp 18)), (some 3, .mv (.tmp 19))]⟩]))) (.region [⟨none, [(some 20, .bin .add (.tmp 8) (.con (.int .i64 1))), (some 8, .mv (.tmp 20))]⟩]))))))) (.seq (.region [⟨none, [(some 21, .mv (.tmp 3)),
    (some 22, .call 165 [.tmp 21]), (none, .store 5 (.tmp 2) (.tmp 22))]⟩]) .ret)))
theorem lowm_attrs : lowerFO [] prog 258 = some ⟨23, [LRes.cell 2 true 5], Bm_attrs⟩ := by kernel_rfl

@[irreducible] def Bm_pieces : LCode :=
  .seq (.region [⟨none, [(some 1, .box 83 (.tmp 0)), (some 2, .alloc 68 [.int .i64 0, .int .i64 0, .bool false, .str [], .lit (.slice none 0 0)])]⟩]) (.seq (.region [⟨none, [(some 3, .mv (.con (.lit (.slice none 0 0))))]⟩]) (.seq
    (.seq (.region [⟨none, [(some 6, .faddr 4 (.tmp 1)), (some 7, .load false 1 (.tmp 6)), (some 8, .bin .neq (.tmp 7) (.con (.str [])))]⟩]) (.cond (.tmp 8) (.region [⟨none, [(some 9, .mv (.tmp 3)), (some 10, .faddr 4 (.tmp 1)),
    (some 11, .load false 1 (.tmp 10)), (some 12, .call 163 [.tmp 11]), (some 13, .call 166 [.con (.int .i64 0), .tmp 12]), (some 14, .bslice 68 5 [.tmp 13]), (some 15, .append false 68 5 64 (.tmp 9) (.tmp 14)), (some 3, .mv (.tmp
    15))]⟩]) .skip)) (.seq (.seq (.region [⟨none, [(some 16, .faddr 6 (.tmp 1)), (some 17, .load false 1 (.tmp 16)), (some 18, .len (.tmp 17)), (some 19, .mv (.con (.int .i64 0)))]⟩]) (.block 0 (.loop (.seq (.region [⟨none, [(some
    20, .bin .lss (.tmp 19) (.tmp 18))]⟩]) (.seq (.cond (.tmp 20) .skip (.exit 0)) (.seq (.block 1 (.seq (.region [⟨none, [(some 21, .iaddr 1 (.tmp 17) (.tmp 19)), (some 22, .load false 1 (.tmp 21)), (some 5, .mv (.tmp 22))]⟩])
    (.region [⟨none, [(some 23, .mv (.tmp 3)), (some 24, .mv (.tmp 5)), (some 25, .call 163 [.tmp 24]), (some 26, .call 166 [.con (.int .i64 1), .tmp 25]), (some 27, .bslice 68 5 [.tmp 26]), (some 28, .append false 68 5 64 (.tmp 23)
    (.tmp 27)), (some 3, .mv (.tmp 28))]⟩]))) (.region [⟨none, [(some 29, .bin .add (.tmp 19) (.con (.int .i64 1))), (some 19, .mv (.tmp 29))]⟩]))))))) (.seq (.seq (.region [⟨none, [(some 30, .faddr 5 (.tmp 1)), (some 31, .load
    false 1 (.tmp 30)), (some 32, .bin .neq (.tmp 31) (.con (.str [])))]⟩]) (.cond (.tmp 32) (.region [⟨none, [(some 33, .mv (.tmp 3)), (some 34, .faddr 5 (.tmp 1)), (some 35, .load false 1 (.tmp 34)), (some 36, .call 163 [.tmp
    35]), (some 37, .call 166 [.con (.int .i64 2), .tmp 36]), (some 38, .bslice 68 5 [.tmp 37]), (some 39, .append false 68 5 64 (.tmp 33) (.tmp 38)), (some 3, .mv (.tmp 39))]⟩]) .skip)) (.seq (.region [⟨none, [(some 40, .mv (.tmp
    3)), (some 41, .call 165 [.tmp 40]), (none, .store 5 (.tmp 2) (.tmp 41))]⟩]) .ret)))))
theorem lowm_pieces : lowerFO [] prog 309 = some ⟨42, [LRes.cell 2 true 5], Bm_pieces⟩ := by kernel_rfl

@[irreducible] def Bm_filtered : LCode :=
  .seq (.region [⟨none, [(some 2, .alloc 68 [.int .i64 0, .int .i64 0, .bool false, .str [], .lit (.slice none 0 0)]), (some 3, .mv (.con (.lit (.slice none 0 0))))]⟩]) (.seq (.region [⟨none, [(some 8, .mv (.tmp 0)), (some 9, .iaddr
    7 (.tmp 8) (.con (.int .i64 0))), (some 10, .load true 7 (.tmp 9)), (some 4, .alloc 83 [.int .i64 0, .int .i64 0, .str [], .str [], .str [], .str [], .lit (.slice none 0 0)]), (none, .store 7 (.tmp 4) (.tmp 10))]⟩]) (.seq
    (.region [⟨none, [(some 11, .mv (.tmp 0)), (some 12, .slc 7 (.tmp 11) (some (.con (.int .i64 1))) none), (some 0, .mv (.tmp 12))]⟩]) (.seq (.region [⟨none, [(some 5, .alloc 68 [.int .i64 0, .int .i64 0, .bool false, .str [],
    .lit (.slice none 0 0)])]⟩]) (.seq (.seq (.region [⟨none, [(some 13, .faddr 0 (.tmp 4)), (some 14, .load false 1 (.tmp 13))]⟩]) (.block 0 (.seq (.seq (.region [⟨none, [(some 24, .bin .eql (.tmp 14) (.con (.int .i64 0))), (some
    23, .mv (.tmp 24))]⟩]) (.cond (.tmp 23) .skip (.seq (.region [⟨none, [(some 25, .bin .eql (.tmp 14) (.con (.int .i64 1))), (some 23, .mv (.tmp 25))]⟩]) (.cond (.tmp 23) .skip (.region [⟨none, [(some 26, .bin .eql (.tmp 14) (.con
    (.int .i64 2))), (some 23, .mv (.tmp 26))]⟩]))))) (.cond (.tmp 23) (.seq (.region [⟨none, [(some 6, .mv (.con (.lit (.slice none 0 0))))]⟩]) (.seq (.seq (.region [⟨none, [(some 27, .faddr 1 (.tmp 4)), (some 28, .load false 1
    (.tmp 27)), (some 29, .mv (.con (.int .i64 0)))]⟩]) (.block 1 (.loop (.seq (.region [⟨none, [(some 30, .bin .lss (.tmp 29) (.tmp 28))]⟩]) (.seq (.cond (.tmp 30) .skip (.exit 1)) (.seq (.block 2 (.seq (.region [⟨none, [(some 7,
    .alloc 68 [.int .i64 0, .int .i64 0, .bool false, .str [], .lit (.slice none 0 0)])]⟩]) (.seq (.region [⟨none, [(some 32, .mv (.tmp 0)), (some 33, .call 255 [.tmp 32]), (some 31, .mv (.tmp 33)), (some 34, .extr 0 (.tmp 31)),
    (some 35, .extr 1 (.tmp 31)), (none, .store 5 (.tmp 7) (.tmp 34)), (some 0, .mv (.tmp 35))]⟩]) (.region [⟨none, [(some 36, .mv (.tmp 6)), (some 37, .load true 5 (.tmp 7)), (some 38, .bslice 68 5 [.tmp 37]), (some 39, .append
    false 68 5 64 (.tmp 36) (.tmp 38)), (some 6, .mv (.tmp 39))]⟩])))) (.region [⟨none, [(some 40, .bin .add (.tmp 29) (.con (.int .i64 1))), (some 29, .mv (.tmp 40))]⟩]))))))) (.region [⟨none, [(some 41, .mv (.tmp 6)), (some 42,
    .call 165 [.tmp 41]), (none, .store 5 (.tmp 5) (.tmp 42))]⟩]))) (.seq (.region [⟨none, [(some 44, .bin .eql (.tmp 14) (.con (.int .i64 7))), (some 43, .mv (.tmp 44))]⟩]) (.cond (.tmp 43) (.region [⟨none, [(some 45, .faddr 2
    (.tmp 4)), (some 46, .load false 1 (.tmp 45)), (some 47, .call 163 [.tmp 46]), (none, .store 5 (.tmp 5) (.tmp 47))]⟩]) (.seq (.region [⟨none, [(some 49, .bin .eql (.tmp 14) (.con (.int .i64 4))), (some 48, .mv (.tmp 49))]⟩])
    (.cond (.tmp 48) (.quiet [⟨some 50, none, .faddr 2 (.tmp 4), false, 0, 0⟩, ⟨some 51, none, .load false 1 (.tmp 50), false, 0, 0⟩, ⟨some 52, none, .call 163 [.tmp 51], false, 0, 0⟩, ⟨some 53, none, .load true 7 (.tmp 4), false,
    0, 0⟩, ⟨some 54, none, .call 309 [.tmp 53], false, 0, 0⟩, ⟨some 55, none, .bslice 68 5 [.tmp 52, .tmp 54], false, 0, 0⟩, ⟨some 56, none, .call 165 [.tmp 55], false, 0, 0⟩, ⟨none, none, .store 5 (.tmp 5) (.tmp 56), true, 0, 0⟩])
    (.quiet [⟨some 15, none, .faddr 2 (.tmp 4), false, 0, 0⟩, ⟨some 16, none, .load false 1 (.tmp 15), false, 0, 0⟩, ⟨some 17, none, .call 163 [.tmp 16], false, 0, 0⟩, ⟨some 18, none, .faddr 3 (.tmp 4), false, 0, 0⟩, ⟨some 19, none,
    .load false 1 (.tmp 18), false, 0, 0⟩, ⟨some 20, none, .call 163 [.tmp 19], false, 0, 0⟩, ⟨some 21, none, .bslice 68 5 [.tmp 17, .tmp 20], false, 0, 0⟩, ⟨some 22, none, .call 165 [.tmp 21], false, 0, 0⟩, ⟨none, none, .store 5
    (.tmp 5) (.tmp 22), true, 0, 0⟩]))))))))) (.seq (.region [⟨none, [(some 57, .faddr 0 (.tmp 4)), (some 58, .load false 1 (.tmp 57)), (some 59, .load true 5 (.tmp 5)), (some 60, .call 166 [.tmp 58, .tmp 59]), (some 61, .mv (.tmp
    0)), (none, .store 5 (.tmp 2) (.tmp 60)), (some 3, .mv (.tmp 61))]⟩]) .ret)))))
theorem lowm_filtered : lowerFO [] prog 255 = some ⟨62, [LRes.cell 2 true 5, LRes.tmp 3], Bm_filtered⟩ := by kernel_rfl

@[irreducible] def Bm_mods : LCode :=
  .seq (.region [⟨none, [(some 2, .alloc 68 [.int .i64 0, .int .i64 0, .bool false, .str [], .lit (.slice none 0 0)])]⟩]) (.seq (.region [⟨none, [(some 3, .mv (.con (.lit (.slice none 0 0))))]⟩]) (.seq (.seq (.region [⟨none, [(some
    6, .mv (.tmp 0)), (some 7, .len (.tmp 6)), (some 8, .mv (.con (.int .i64 0)))]⟩]) (.block 0 (.loop (.seq (.region [⟨none, [(some 9, .bin .lss (.tmp 8) (.tmp 7))]⟩]) (.seq (.cond (.tmp 9) .skip (.exit 0)) (.seq (.block 1 (.seq
    (.region [⟨none, [(some 10, .iaddr 3 (.tmp 6) (.tmp 8)), (some 11, .load true 3 (.tmp 10)), (some 5, .alloc 81 [.int .i64 0, .str [], .lit (.slice none 0 0)]), (none, .store 3 (.tmp 5) (.tmp 11))]⟩]) (.quiet [⟨some 12, none, .mv
    (.tmp 3), false, 0, 0⟩, ⟨some 13, none, .faddr 0 (.tmp 5), false, 0, 1⟩, ⟨some 14, none, .load false 1 (.tmp 13), false, 0, 1⟩, ⟨some 15, none, .call 161 [.con (.int .i64 10), .tmp 14], false, 0, 1⟩, ⟨some 16, none, .faddr 1
    (.tmp 5), false, 0, 1⟩, ⟨some 17, none, .load false 1 (.tmp 16), false, 0, 1⟩, ⟨some 18, none, .faddr 2 (.tmp 5), false, 0, 1⟩, ⟨some 19, none, .load false 1 (.tmp 18), false, 0, 1⟩, ⟨some 20, none, .call 310 [.tmp 17, .tmp 19],
    false, 0, 1⟩, ⟨some 21, none, .bslice 68 5 [.tmp 15, .tmp 20], false, 0, 1⟩, ⟨some 22, none, .call 165 [.tmp 21], false, 0, 0⟩, ⟨some 23, none, .bslice 68 5 [.tmp 22], false, 0, 0⟩, ⟨some 24, none, .append false 68 5 64 (.tmp
    12) (.tmp 23), true, 0, 0⟩, ⟨some 3, none, .mv (.tmp 24), false, 0, 0⟩]))) (.region [⟨none, [(some 25, .bin .add (.tmp 8) (.con (.int .i64 1))), (some 8, .mv (.tmp 25))]⟩]))))))) (.seq (.region [⟨none, [(some 26, .mv (.tmp 3)),
    (some 27, .call 165 [.tmp 26]), (none, .store 5 (.tmp 2) (.tmp 27))]⟩]) .ret)))
theorem lowm_mods : lowerFO [] prog 257 = some ⟨28, [LRes.cell 2 true 5], Bm_mods⟩ := by kernel_rfl

@[irreducible] def Bm_answer : LCode :=
  .seq (.region [⟨none, [(some 1, .box 28 (.tmp 0)), (some 2, .mv (.con (.lit (.slice none 0 0))))]⟩]) (.seq (.quiet [⟨some 4, none, .faddr 24 (.tmp 1), false, 0, 1⟩, ⟨some 5, none, .load false 1 (.tmp 4), false, 0, 1⟩, ⟨some 6,
    none, .call 161 [.con (.int .i64 10), .tmp 5], false, 0, 0⟩, ⟨some 7, none, .faddr 25 (.tmp 1), false, 0, 1⟩, ⟨some 8, none, .load false 1 (.tmp 7), false, 0, 1⟩, ⟨some 9, none, .call 163 [.tmp 8], false, 0, 0⟩, ⟨some 10, none,
    .faddr 26 (.tmp 1), false, 0, 1⟩, ⟨some 11, none, .load false 1 (.tmp 10), false, 0, 1⟩, ⟨some 12, none, .call 163 [.tmp 11], false, 0, 0⟩, ⟨some 13, none, .brow 68 5 [.tmp 6, .tmp 9, .tmp 12], true, 0, 0⟩, ⟨some 3, none, .mv
    (.tmp 13), false, 0, 0⟩]) (.seq (.seq (.region [⟨none, [(some 14, .faddr 21 (.tmp 1)), (some 15, .load false 1 (.tmp 14)), (some 16, .bin .neq (.tmp 15) (.con (.str [])))]⟩]) (.cond (.tmp 16) (.region [⟨none, [(some 17, .mv
    (.tmp 3)), (some 18, .faddr 21 (.tmp 1)), (some 19, .load false 1 (.tmp 18)), (some 20, .call 163 [.tmp 19]), (some 21, .call 166 [.con (.int .i64 10), .tmp 20]), (some 22, .bslice 68 5 [.tmp 21]), (some 23, .append false 68 5
    64 (.tmp 17) (.tmp 22)), (some 3, .mv (.tmp 23))]⟩]) .skip)) (.seq (.seq (.region [⟨none, [(some 24, .faddr 22 (.tmp 1)), (some 25, .load false 1 (.tmp 24))]⟩]) (.cond (.tmp 25) (.region [⟨none, [(some 26, .mv (.tmp 3)), (some
    27, .faddr 20 (.tmp 1)), (some 28, .load false 1 (.tmp 27)), (some 29, .call 163 [.tmp 28]), (some 30, .call 166 [.con (.int .i64 11), .tmp 29]), (some 31, .bslice 68 5 [.tmp 30]), (some 32, .append false 68 5 64 (.tmp 26) (.tmp
    31)), (some 3, .mv (.tmp 32))]⟩]) .skip)) (.seq (.region [⟨none, [(some 33, .mv (.tmp 3)), (some 2, .mv (.tmp 33))]⟩]) .ret))))
theorem lowm_answer : lowerFO [13] prog 263 = some ⟨34, [LRes.tmp 2], Bm_answer⟩ := by kernel_rfl

@[irreducible] def Bs_containsI : LCode :=
  .seq (.region [⟨none, [(some 4, .mv (.con (.bool false)))]⟩]) (.seq (.region [⟨none, [(some 5, .mv (.tmp 0)), (some 6, .mv (.tmp 1)), (some 7, .call 306 [.tmp 5, .tmp 6]), (some 8, .bin .geq (.tmp 7) (.con (.int .i64 0))), (some
    4, .mv (.tmp 8))]⟩]) .ret)
theorem lows_containsI : lowerFO [] prog 244 = some ⟨9, [LRes.tmp 4], Bs_containsI⟩ := by kernel_rfl

@[irreducible] def Bs_indexI : LCode :=
  .seq (.region [⟨none, [(some 4, .mv (.con (.int .i64 0)))]⟩]) (.seq (.seq (.region [⟨none, [(some 6, .mv (.tmp 0)), (some 7, .len (.tmp 6)), (some 8, .mv (.con (.int .i64 0)))]⟩]) (.block 0 (.loop (.seq (.region [⟨none, [(some 9,
    .bin .lss (.tmp 8) (.tmp 7))]⟩]) (.seq (.cond (.tmp 9) .skip (.exit 0)) (.seq (.block 1 (.seq (.region [⟨none, [(some 10, .mv (.tmp 8)), (some 5, .mv (.tmp 10))]⟩]) (.seq (.region [⟨none, [(some 11, .mv (.tmp 1)), (some 12, .mv
    (.tmp 0)), (some 13, .mv (.tmp 5)), (some 14, .iaddr 1 (.tmp 12) (.tmp 13)), (some 15, .load false 1 (.tmp 14)), (some 16, .bin .eql (.tmp 11) (.tmp 15))]⟩]) (.cond (.tmp 16) (.seq (.region [⟨none, [(some 17, .mv (.tmp 5)),
    (some 4, .mv (.tmp 17))]⟩]) .ret) .skip)))) (.region [⟨none, [(some 18, .bin .add (.tmp 8) (.con (.int .i64 1))), (some 8, .mv (.tmp 18))]⟩]))))))) (.seq (.region [⟨none, [(some 4, .mv (.con (.int .i64 (-1))))]⟩]) .ret))
theorem lows_indexI : lowerFO [] prog 306 = some ⟨19, [LRes.tmp 4], Bs_indexI⟩ := by kernel_rfl

@[irreducible] def Bs_containsFM : LCode :=
  .seq (.region [⟨none, [(some 4, .mv (.con (.bool false)))]⟩]) (.seq (.region [⟨none, [(some 5, .mv (.tmp 0)), (some 6, .mv (.tmp 1)), (some 7, .call 269 [.tmp 5, .tmp 6]), (some 8, .bin .geq (.tmp 7) (.con (.int .i64 0))), (some
    4, .mv (.tmp 8))]⟩]) .ret)
theorem lows_containsFM : lowerFO [] prog 180 = some ⟨9, [LRes.tmp 4], Bs_containsFM⟩ := by kernel_rfl

@[irreducible] def Bs_indexFM : LCode :=
  .seq (.region [⟨none, [(some 4, .mv (.con (.int .i64 0)))]⟩]) (.seq (.seq (.region [⟨none, [(some 6, .mv (.tmp 0)), (some 7, .len (.tmp 6)), (some 8, .mv (.con (.int .i64 0)))]⟩]) (.block 0 (.loop (.seq (.region [⟨none, [(some 9,
    .bin .lss (.tmp 8) (.tmp 7))]⟩]) (.seq (.cond (.tmp 9) .skip (.exit 0)) (.seq (.block 1 (.seq (.region [⟨none, [(some 10, .mv (.tmp 8)), (some 5, .mv (.tmp 10))]⟩]) (.seq (.region [⟨none, [(some 11, .mv (.tmp 1)), (some 12, .mv
    (.tmp 0)), (some 13, .mv (.tmp 5)), (some 14, .iaddr 3 (.tmp 12) (.tmp 13)), (some 15, .load true 3 (.tmp 14)), (some 16, .callv (.tmp 11) [.tmp 15])]⟩]) (.cond (.tmp 16) (.seq (.region [⟨none, [(some 17, .mv (.tmp 5)), (some 4,
    .mv (.tmp 17))]⟩]) .ret) .skip)))) (.region [⟨none, [(some 18, .bin .add (.tmp 8) (.con (.int .i64 1))), (some 8, .mv (.tmp 18))]⟩]))))))) (.seq (.region [⟨none, [(some 4, .mv (.con (.int .i64 (-1))))]⟩]) .ret))
theorem lows_indexFM : lowerFO [] prog 269 = some ⟨19, [LRes.tmp 4], Bs_indexFM⟩ := by kernel_rfl

@[irreducible] def Bs_containsFC : LCode :=
  .seq (.region [⟨none, [(some 4, .mv (.con (.bool false)))]⟩]) (.seq (.region [⟨none, [(some 5, .mv (.tmp 0)), (some 6, .mv (.tmp 1)), (some 7, .call 183 [.tmp 5, .tmp 6]), (some 8, .bin .geq (.tmp 7) (.con (.int .i64 0))), (some
    4, .mv (.tmp 8))]⟩]) .ret)
theorem lows_containsFC : lowerFO [] prog 46 = some ⟨9, [LRes.tmp 4], Bs_containsFC⟩ := by kernel_rfl

@[irreducible] def Bs_indexFC : LCode :=
  .seq (.region [⟨none, [(some 4, .mv (.con (.int .i64 0)))]⟩]) (.seq (.seq (.region [⟨none, [(some 6, .mv (.tmp 0)), (some 7, .len (.tmp 6)), (some 8, .mv (.con (.int .i64 0)))]⟩]) (.block 0 (.loop (.seq (.region [⟨none, [(some 9,
    .bin .lss (.tmp 8) (.tmp 7))]⟩]) (.seq (.cond (.tmp 9) .skip (.exit 0)) (.seq (.block 1 (.seq (.region [⟨none, [(some 10, .mv (.tmp 8)), (some 5, .mv (.tmp 10))]⟩]) (.seq (.region [⟨none, [(some 11, .mv (.tmp 1)), (some 12, .mv
    (.tmp 0)), (some 13, .mv (.tmp 5)), (some 14, .iaddr 4 (.tmp 12) (.tmp 13)), (some 15, .load true 4 (.tmp 14)), (some 16, .callv (.tmp 11) [.tmp 15])]⟩]) (.cond (.tmp 16) (.seq (.region [⟨none, [(some 17, .mv (.tmp 5)), (some 4,
    .mv (.tmp 17))]⟩]) .ret) .skip)))) (.region [⟨none, [(some 18, .bin .add (.tmp 8) (.con (.int .i64 1))), (some 8, .mv (.tmp 18))]⟩]))))))) (.seq (.region [⟨none, [(some 4, .mv (.con (.int .i64 (-1))))]⟩]) .ret))
theorem lows_indexFC : lowerFO [] prog 183 = some ⟨19, [LRes.tmp 4], Bs_indexFC⟩ := by kernel_rfl

end Go.Proofs.YtajbeippbabhhaaGreatDoor.Eng

namespace Go.Proofs.YtajbeippbabhhaaGreatDoor.Eng
open Go Go.Proofs.Tryz

@[irreducible] def Bm_Read : LCode :=
  .seq (.region [⟨none, [(some 2, .alloc 28 [.int .i64 0, .int .i64 0, .str [], .int .i64 0, .bool false, .str [], .int .i64 0, .int .i64 0, .int .i64 0, .int .i64 0, .bool false, .lit (.slice none 0 0), .lit (.slice none 0 0), .lit
    (.slice none 0 0), .lit (.slice none 0 0), .str [], .str [], .bool false, .bool false, .str [], .str [], .str [], .bool false, .int .i64 0, .int .i64 0, .str [], .str [], .lit (.slice none 0 0)]), (some 3, .mv (.con (.int .i64
    0)))]⟩]) (.seq (.region [⟨none, [(some 8, .mv (.tmp 0)), (some 9, .call 24 [.tmp 8]), (some 7, .mv (.tmp 9)), (some 10, .extr 0 (.tmp 7)), (some 11, .extr 1 (.tmp 7)), (some 4, .alloc 68 [.int .i64 0, .int .i64 0, .bool false,
    .str [], .lit (.slice none 0 0)]), (none, .store 5 (.tmp 4) (.tmp 10)), (some 5, .mv (.tmp 11))]⟩]) (.seq (.seq (.region [⟨none, [(some 12, .mv (.tmp 5)), (some 13, .bin .neq (.tmp 12) (.con (.int .i64 0)))]⟩]) (.cond (.tmp 13)
    (.seq (.region [⟨none, [(some 14, .build [.int .i64 0, .int .i64 0, .str [], .int .i64 0, .bool false, .str [], .int .i64 0, .int .i64 0, .int .i64 0, .int .i64 0, .bool false, .lit (.slice none 0 0), .lit (.slice none 0 0),
    .lit (.slice none 0 0), .lit (.slice none 0 0), .str [], .str [], .bool false, .bool false, .str [], .str [], .str [], .bool false, .int .i64 0, .int .i64 0, .str [], .str [], .lit (.slice none 0 0)] []), (some 15, .mv (.tmp
    5)), (none, .store 28 (.tmp 2) (.tmp 14)), (some 3, .mv (.tmp 15))]⟩]) .ret) .skip)) (.seq (.region [⟨none, [(some 6, .alloc 28 [.int .i64 0, .int .i64 0, .str [], .int .i64 0, .bool false, .str [], .int .i64 0, .int .i64 0,
    .int .i64 0, .int .i64 0, .bool false, .lit (.slice none 0 0), .lit (.slice none 0 0), .lit (.slice none 0 0), .lit (.slice none 0 0), .str [], .str [], .bool false, .bool false, .str [], .str [], .str [], .bool false, .int .i64
    0, .int .i64 0, .str [], .str [], .lit (.slice none 0 0)])]⟩]) (.seq (.seq (.region [⟨none, [(some 16, .mkfn (.func 51) [.tmp 4, .tmp 6]), (some 17, .call 50 [.tmp 16]), (some 18, .un .not (.tmp 17)), (some 19, .mv (.tmp 18))]⟩,
    ⟨some (19, false), [(some 20, .load true 28 (.tmp 6)), (some 21, .call 15 [.tmp 20]), (some 22, .un .not (.tmp 21))]⟩, ⟨none, [(some 23, .pick (.tmp 19) (.con (.bool true)) (.tmp 22))]⟩]) (.cond (.tmp 23) (.seq (.region [⟨none,
    [(some 24, .build [.int .i64 0, .int .i64 0, .str [], .int .i64 0, .bool false, .str [], .int .i64 0, .int .i64 0, .int .i64 0, .int .i64 0, .bool false, .lit (.slice none 0 0), .lit (.slice none 0 0), .lit (.slice none 0 0),
    .lit (.slice none 0 0), .str [], .str [], .bool false, .bool false, .str [], .str [], .str [], .bool false, .int .i64 0, .int .i64 0, .str [], .str [], .lit (.slice none 0 0)] []), (none, .store 28 (.tmp 2) (.tmp 24)), (some 3,
    .mv (.con (.int .i64 70)))]⟩]) .ret) .skip)) (.seq (.region [⟨none, [(some 25, .load true 28 (.tmp 6)), (none, .store 28 (.tmp 2) (.tmp 25)), (some 3, .mv (.con (.int .i64 0)))]⟩]) .ret)))))
theorem lowm_Read : lowerFO [] prog 18 = some ⟨26, [LRes.cell 2 true 28, LRes.tmp 3], Bm_Read⟩ := by kernel_rfl

@[irreducible] def Bm_Read_1 : LCode :=
  .region [⟨none, [(some 2, .load true 5 (.tmp 0)), (some 3, .call 52 [.tmp 2]), (none, .store 28 (.tmp 1) (.tmp 3))]⟩]
theorem lowm_Read_1 : lowerFO [] prog 51 = some ⟨4, [], Bm_Read_1⟩ := by kernel_rfl

@[irreducible] def Bm_told : LCode :=
  .seq (.region [⟨none, [(some 1, .box 68 (.tmp 0)), (some 2, .alloc 28 [.int .i64 0, .int .i64 0, .str [], .int .i64 0, .bool false, .str [], .int .i64 0, .int .i64 0, .int .i64 0, .int .i64 0, .bool false, .lit (.slice none 0 0),
    .lit (.slice none 0 0), .lit (.slice none 0 0), .lit (.slice none 0 0), .str [], .str [], .bool false, .bool false, .str [], .str [], .str [], .bool false, .int .i64 0, .int .i64 0, .str [], .str [], .lit (.slice none 0 0)])]⟩])
    (.seq (.region [⟨none, [(some 3, .alloc 28 [.int .i64 0, .int .i64 0, .str [], .int .i64 0, .bool false, .str [], .int .i64 0, .int .i64 0, .int .i64 0, .int .i64 0, .bool false, .lit (.slice none 0 0), .lit (.slice none 0 0),
    .lit (.slice none 0 0), .lit (.slice none 0 0), .str [], .str [], .bool false, .bool false, .str [], .str [], .str [], .bool false, .int .i64 0, .int .i64 0, .str [], .str [], .lit (.slice none 0 0)])]⟩]) (.seq (.region [⟨none,
    [(some 6, .load true 5 (.tmp 1)), (some 7, .call 188 [.tmp 6, .con (.int .i64 0), .con (.int .i64 16)]), (some 4, .mv (.tmp 7))]⟩]) (.seq (.region [⟨none, [(some 8, .mv (.tmp 4)), (some 9, .call 189 [.tmp 8, .con (.int .i64
    2)]), (some 10, .faddr 0 (.tmp 3)), (none, .store 1 (.tmp 10) (.tmp 9))]⟩]) (.seq (.region [⟨none, [(some 11, .mv (.tmp 4)), (some 12, .call 191 [.tmp 11]), (some 13, .call 190 [.tmp 3, .tmp 12])]⟩]) (.seq (.seq (.region [⟨none,
    [(some 14, .mv (.tmp 4)), (some 15, .call 192 [.tmp 14, .con (.int .i64 2), .con (.int .i64 0)])]⟩]) (.cond (.tmp 15) (.seq (.region [⟨none, [(some 16, .mv (.tmp 4)), (some 17, .call 191 [.tmp 16]), (some 18, .call 188 [.tmp 17,
    .con (.int .i64 2), .con (.int .i64 0)]), (some 5, .mv (.tmp 18))]⟩]) (.block 0 (.loop (.seq (.seq (.region [⟨none, [(some 19, .mv (.tmp 5)), (some 20, .nilchk (.tmp 19)), (some 21, .faddr 0 (.tmp 20)), (some 22, .load false 1
    (.tmp 21)), (some 23, .len (.tmp 22)), (some 24, .bin .gtr (.tmp 23) (.con (.int .i64 0)))]⟩]) (.cond (.tmp 24) .skip (.exit 0))) (.block 1 (.quiet [⟨some 25, none, .faddr 27 (.tmp 3), false, 0, 1⟩, ⟨some 26, none, .load false 1
    (.tmp 25), false, 0, 0⟩, ⟨some 27, none, .mv (.tmp 5), false, 0, 1⟩, ⟨some 28, none, .call 191 [.tmp 27], false, 0, 1⟩, ⟨some 29, none, .call 193 [.tmp 28], false, 0, 0⟩, ⟨some 30, none, .bslice 85 4 [.tmp 29], false, 0, 0⟩,
    ⟨some 31, none, .append false 85 4 40 (.tmp 26) (.tmp 30), true, 0, 0⟩, ⟨some 32, none, .faddr 27 (.tmp 3), false, 0, 0⟩, ⟨none, none, .store 1 (.tmp 32) (.tmp 31), true, 0, 0⟩])))))) .skip)) (.seq (.region [⟨none, [(some 33,
    .mv (.tmp 4)), (some 34, .call 194 [.tmp 33])]⟩]) (.seq (.region [⟨none, [(some 35, .load true 28 (.tmp 3)), (none, .store 28 (.tmp 2) (.tmp 35))]⟩]) .ret)))))))
theorem lowm_told : lowerFO [] prog 52 = some ⟨36, [LRes.cell 2 true 28], Bm_told⟩ := by kernel_rfl

@[irreducible] def Bm_kids : LCode :=
  .seq (.region [⟨none, [(some 3, .box 68 (.tmp 0)), (some 6, .mv (.con (.lit (.pointer none))))]⟩]) (.seq (.region [⟨none, [(some 10, .load true 5 (.tmp 3)), (some 11, .mv (.tmp 1)), (some 12, .mv (.tmp 2)), (some 13, .call 271
    [.tmp 10, .tmp 11, .tmp 12]), (some 9, .mv (.tmp 13)), (some 14, .extr 0 (.tmp 9)), (some 15, .extr 1 (.tmp 9)), (some 7, .mv (.tmp 14)), (some 8, .mv (.tmp 15))]⟩]) (.seq (.region [⟨none, [(some 16, .mv (.tmp 8)), (some 17,
    .bin .eql (.tmp 16) (.con (.int .i64 0))), (some 18, .call 272 [.tmp 17])]⟩]) (.seq (.region [⟨none, [(some 19, .mv (.tmp 7)), (some 20, .build [.lit (.slice none 0 0)] [(0, 1, .tmp 19)]), (some 21, .box 201 (.tmp 20)), (some 6,
    .mv (.tmp 21))]⟩]) .ret)))
theorem lowm_kids : lowerFO [] prog 188 = some ⟨22, [LRes.tmp 6], Bm_kids⟩ := by kernel_rfl

@[irreducible] def Bm_row_num : LCode :=
  .seq (.region [⟨none, [(some 4, .mv (.con (.int .i64 0)))]⟩]) (.seq (.region [⟨none, [(some 8, .mv (.tmp 0)), (some 9, .call 191 [.tmp 8]), (some 10, .mv (.tmp 1)), (some 11, .call 25 [.tmp 9, .con (.int .i64 0), .tmp 10]), (some
    7, .mv (.tmp 11)), (some 12, .extr 0 (.tmp 7)), (some 13, .extr 1 (.tmp 7)), (some 5, .mv (.tmp 12)), (some 6, .mv (.tmp 13))]⟩]) (.seq (.region [⟨none, [(some 14, .mv (.tmp 6)), (some 15, .bin .eql (.tmp 14) (.con (.int .i64
    0))), (some 16, .call 272 [.tmp 15])]⟩]) (.seq (.region [⟨none, [(some 17, .mv (.tmp 5)), (some 4, .mv (.tmp 17))]⟩]) .ret)))
theorem lowm_row_num : lowerFO [] prog 189 = some ⟨18, [LRes.tmp 4], Bm_row_num⟩ := by kernel_rfl

@[irreducible] def Bm_opOf : LCode :=
  .seq (.region [⟨none, [(some 2, .box 110 (.tmp 0)), (some 3, .box 68 (.tmp 1))]⟩]) (.seq (.region [⟨none, [(some 10, .load false 1 (.tmp 2)), (some 11, .faddr 1 (.tmp 3)), (some 12, .load false 1 (.tmp 11)), (some 13, .nilchk
    (.tmp 10)), (some 14, .faddr 1 (.tmp 13)), (none, .store 1 (.tmp 14) (.tmp 12))]⟩]) (.seq (.seq (.region [⟨none, [(some 15, .load false 1 (.tmp 2)), (some 16, .nilchk (.tmp 15)), (some 17, .faddr 1 (.tmp 16)), (some 18, .load
    false 1 (.tmp 17))]⟩]) (.block 0 (.seq (.region [⟨none, [(some 20, .bin .eql (.tmp 18) (.con (.int .i64 2))), (some 19, .mv (.tmp 20))]⟩]) (.cond (.tmp 19) (.seq (.quiet [⟨some 21, none, .load true 5 (.tmp 3), false, 0, 0⟩,
    ⟨some 22, none, .load false 1 (.tmp 2), false, 0, 0⟩, ⟨some 23, none, .nilchk (.tmp 22), false, 0, 0⟩, ⟨some 24, none, .faddr 1 (.tmp 23), false, 0, 0⟩, ⟨some 25, none, .load false 1 (.tmp 24), false, 0, 0⟩, ⟨some 26, none,
    .call 273 [.tmp 21, .con (.int .i64 1), .tmp 25], false, 0, 0⟩, ⟨some 27, none, .bin .eql (.tmp 26) (.con (.str [])), false, 0, 0⟩, ⟨some 28, none, .call 272 [.tmp 27], false, 0, 0⟩]) .ret) (.seq (.region [⟨none, [(some 30, .bin
    .eql (.tmp 18) (.con (.int .i64 10))), (some 29, .mv (.tmp 30))]⟩]) (.cond (.tmp 29) (.seq (.quiet [⟨some 31, none, .load false 1 (.tmp 2), false, 0, 0⟩, ⟨some 32, none, .load true 5 (.tmp 3), false, 0, 0⟩, ⟨some 33, none, .load
    false 1 (.tmp 2), false, 0, 0⟩, ⟨some 34, none, .nilchk (.tmp 33), false, 0, 0⟩, ⟨some 35, none, .faddr 1 (.tmp 34), false, 0, 0⟩, ⟨some 36, none, .load false 1 (.tmp 35), false, 0, 0⟩, ⟨some 37, none, .call 273 [.tmp 32, .con
    (.int .i64 1), .tmp 36], false, 0, 0⟩, ⟨some 38, none, .nilchk (.tmp 31), false, 0, 1⟩, ⟨some 39, none, .faddr 2 (.tmp 38), false, 0, 0⟩, ⟨none, none, .store 1 (.tmp 39) (.tmp 37), true, 0, 0⟩]) .ret) (.seq (.region [⟨none,
    [(some 41, .bin .eql (.tmp 18) (.con (.int .i64 16))), (some 40, .mv (.tmp 41))]⟩]) (.cond (.tmp 40) (.seq (.quiet [⟨some 43, none, .load true 5 (.tmp 3), false, 0, 0⟩, ⟨some 44, none, .load false 1 (.tmp 2), false, 0, 0⟩, ⟨some
    45, none, .nilchk (.tmp 44), false, 0, 0⟩, ⟨some 46, none, .faddr 1 (.tmp 45), false, 0, 0⟩, ⟨some 47, none, .load false 1 (.tmp 46), false, 0, 0⟩, ⟨some 48, none, .call 25 [.tmp 43, .con (.int .i64 1), .tmp 47], false, 0, 0⟩,
    ⟨some 42, none, .mv (.tmp 48), false, 0, 0⟩, ⟨some 49, none, .extr 0 (.tmp 42), false, 0, 0⟩, ⟨some 50, none, .extr 1 (.tmp 42), false, 0, 0⟩, ⟨some 4, none, .mv (.tmp 49), false, 0, 0⟩, ⟨some 5, none, .mv (.tmp 50), false, 0,
    0⟩]) (.seq (.region [⟨none, [(some 51, .mv (.tmp 5)), (some 52, .bin .eql (.tmp 51) (.con (.int .i64 0))), (some 53, .call 272 [.tmp 52])]⟩]) (.seq (.region [⟨none, [(some 54, .load false 1 (.tmp 2)), (some 55, .mv (.tmp 4)),
    (some 56, .nilchk (.tmp 54)), (some 57, .faddr 23 (.tmp 56)), (none, .store 1 (.tmp 57) (.tmp 55))]⟩]) .ret))) .skip)))))))) (.seq (.quiet [⟨some 58, none, .load true 5 (.tmp 3), false, 0, 1⟩, ⟨some 59, none, .load false 1 (.tmp
    2), false, 0, 1⟩, ⟨some 60, none, .nilchk (.tmp 59), false, 0, 1⟩, ⟨some 61, none, .faddr 1 (.tmp 60), false, 0, 1⟩, ⟨some 62, none, .load false 1 (.tmp 61), false, 0, 1⟩, ⟨some 63, none, .call 188 [.tmp 58, .con (.int .i64 1),
    .tmp 62], false, 0, 1⟩, ⟨some 6, none, .alloc 197 [.lit (.pointer none)], true, 0, 0⟩, ⟨none, none, .store 1 (.tmp 6) (.tmp 63), true, 0, 0⟩]) (.seq (.region [⟨none, [(some 64, .mkmap), (some 65, .mkfn (.func 274) [.tmp 2, .tmp
    6]), (none, .mins (.tmp 64) (.con (.int .i64 0)) (.tmp 65)), (some 66, .mkfn (.func 276) [.tmp 2, .tmp 6]), (none, .mins (.tmp 64) (.con (.int .i64 3)) (.tmp 66)), (some 67, .mkfn (.func 278) [.tmp 6, .tmp 2]), (none, .mins
    (.tmp 64) (.con (.int .i64 6)) (.tmp 67)), (some 68, .mkfn (.func 281) [.tmp 6, .tmp 2]), (none, .mins (.tmp 64) (.con (.int .i64 8)) (.tmp 68)), (some 69, .mkfn (.func 283) [.tmp 6, .tmp 2]), (none, .mins (.tmp 64) (.con (.int
    .i64 4)) (.tmp 69)), (some 70, .mkfn (.func 284) [.tmp 2, .tmp 6]), (none, .mins (.tmp 64) (.con (.int .i64 12)) (.tmp 70)), (some 71, .mkfn (.func 286) [.tmp 2, .tmp 6]), (none, .mins (.tmp 64) (.con (.int .i64 14)) (.tmp 71)),
    (some 72, .mkfn (.func 288) [.tmp 2, .tmp 6]), (none, .mins (.tmp 64) (.con (.int .i64 23)) (.tmp 72)), (some 73, .mv (.tmp 64)), (some 7, .mv (.tmp 73))]⟩]) (.seq (.region [⟨none, [(some 75, .mv (.tmp 7)), (some 76, .load false
    1 (.tmp 2)), (some 77, .nilchk (.tmp 76)), (some 78, .faddr 1 (.tmp 77)), (some 79, .load false 1 (.tmp 78)), (some 80, .mget (.lit .nilFunc) (.tmp 75) (.tmp 79)), (some 74, .mv (.tmp 80)), (some 81, .extr 0 (.tmp 74)), (some
    82, .extr 1 (.tmp 74)), (some 8, .mv (.tmp 81)), (some 9, .mv (.tmp 82))]⟩]) (.seq (.seq (.region [⟨none, [(some 83, .mv (.tmp 9)), (some 84, .un .not (.tmp 83))]⟩]) (.cond (.tmp 84) (.seq (.region [⟨none, [(some 85, .load false
    1 (.tmp 2)), (some 86, .nilchk (.tmp 85)), (some 87, .faddr 1 (.tmp 86)), (some 88, .load false 1 (.tmp 87)), (some 89, .call 182 [.tmp 88]), (some 90, .call 272 [.tmp 89])]⟩]) (.region [⟨none, [(some 91, .mkfn (.func 290) [.tmp
    2, .tmp 6]), (some 8, .mv (.tmp 91))]⟩])) .skip)) (.seq (.region [⟨none, [(some 92, .mv (.tmp 8)), (some 93, .callv (.tmp 92) [])]⟩]) (.region [⟨none, [(some 94, .load false 1 (.tmp 6)), (some 95, .call 194 [.tmp 94])]⟩]))))))))
theorem lowm_opOf : lowerFO [] prog 190 = some ⟨96, [], Bm_opOf⟩ := by kernel_rfl

@[irreducible] def Bm_row_next : LCode :=
  .seq (.region [⟨none, [(some 2, .alloc 68 [.int .i64 0, .int .i64 0, .bool false, .str [], .lit (.slice none 0 0)])]⟩]) (.seq (.region [⟨none, [(some 4, .mv (.tmp 0)), (some 5, .nilchk (.tmp 4)), (some 6, .faddr 0 (.tmp 5)), (some
    7, .load false 1 (.tmp 6)), (some 8, .len (.tmp 7)), (some 9, .bin .gtr (.tmp 8) (.con (.int .i64 0))), (some 10, .call 272 [.tmp 9])]⟩]) (.seq (.region [⟨none, [(some 11, .mv (.tmp 0)), (some 12, .nilchk (.tmp 11)), (some 13,
    .faddr 0 (.tmp 12)), (some 14, .load false 1 (.tmp 13)), (some 15, .iaddr 5 (.tmp 14) (.con (.int .i64 0))), (some 16, .load true 5 (.tmp 15)), (some 3, .alloc 68 [.int .i64 0, .int .i64 0, .bool false, .str [], .lit (.slice
    none 0 0)]), (none, .store 5 (.tmp 3) (.tmp 16))]⟩]) (.seq (.region [⟨none, [(some 17, .mv (.tmp 0)), (some 18, .mv (.tmp 0)), (some 19, .nilchk (.tmp 18)), (some 20, .faddr 0 (.tmp 19)), (some 21, .load false 1 (.tmp 20)),
    (some 22, .slc 5 (.tmp 21) (some (.con (.int .i64 1))) none), (some 23, .nilchk (.tmp 17)), (some 24, .faddr 0 (.tmp 23)), (none, .store 1 (.tmp 24) (.tmp 22))]⟩]) (.seq (.region [⟨none, [(some 25, .load true 5 (.tmp 3)), (none,
    .store 5 (.tmp 2) (.tmp 25))]⟩]) .ret))))
theorem lowm_row_next : lowerFO [] prog 191 = some ⟨26, [LRes.cell 2 true 5], Bm_row_next⟩ := by kernel_rfl

@[irreducible] def Bm_row_is : LCode :=
  .seq (.region [⟨none, [(some 6, .mv (.con (.bool false)))]⟩]) (.seq (.region [⟨none, [(some 7, .mv (.tmp 0)), (some 8, .nilchk (.tmp 7)), (some 9, .faddr 0 (.tmp 8)), (some 10, .load false 1 (.tmp 9)), (some 11, .len (.tmp 10)),
    (some 12, .bin .gtr (.tmp 11) (.con (.int .i64 0))), (some 13, .mv (.tmp 12))]⟩, ⟨some (13, true), [(some 14, .mv (.tmp 0)), (some 15, .nilchk (.tmp 14)), (some 16, .faddr 0 (.tmp 15)), (some 17, .load false 1 (.tmp 16)), (some
    18, .iaddr 5 (.tmp 17) (.con (.int .i64 0))), (some 19, .faddr 0 (.tmp 18)), (some 20, .load false 1 (.tmp 19)), (some 21, .mv (.tmp 1)), (some 22, .bin .eql (.tmp 20) (.tmp 21))]⟩, ⟨none, [(some 23, .pick (.tmp 13) (.tmp 22)
    (.con (.bool false))), (some 24, .mv (.tmp 23))]⟩, ⟨some (24, true), [(some 25, .mv (.tmp 0)), (some 26, .nilchk (.tmp 25)), (some 27, .faddr 0 (.tmp 26)), (some 28, .load false 1 (.tmp 27)), (some 29, .iaddr 5 (.tmp 28) (.con
    (.int .i64 0))), (some 30, .faddr 1 (.tmp 29)), (some 31, .load false 1 (.tmp 30)), (some 32, .mv (.tmp 2)), (some 33, .bin .eql (.tmp 31) (.tmp 32))]⟩, ⟨none, [(some 34, .pick (.tmp 24) (.tmp 33) (.con (.bool false))), (some 6,
    .mv (.tmp 34))]⟩]) .ret)
theorem lowm_row_is : lowerFO [] prog 192 = some ⟨35, [LRes.tmp 6], Bm_row_is⟩ := by kernel_rfl

@[irreducible] def Bm_controlOf : LCode :=
  .seq (.region [⟨none, [(some 1, .box 68 (.tmp 0)), (some 2, .alloc 85 [.str [], .bool false, .bool false, .str []])]⟩]) (.seq (.region [⟨none, [(some 5, .load true 5 (.tmp 1)), (some 6, .call 188 [.tmp 5, .con (.int .i64 0), .con
    (.int .i64 16)]), (some 3, .mv (.tmp 6))]⟩]) (.seq (.region [⟨none, [(some 7, .mv (.tmp 3)), (some 8, .call 279 [.tmp 7]), (some 9, .build [.str [], .bool false, .bool false, .str []] [(0, 1, .tmp 8)]), (some 4, .alloc 85 [.str
    [], .bool false, .bool false, .str []]), (none, .store 4 (.tmp 4) (.tmp 9))]⟩]) (.seq (.seq (.region [⟨none, [(some 10, .mv (.tmp 3)), (some 11, .call 192 [.tmp 10, .con (.int .i64 0), .con (.int .i64 1)])]⟩]) (.cond (.tmp 11)
    (.region [⟨none, [(some 12, .mv (.tmp 3)), (some 13, .call 292 [.tmp 12]), (some 14, .faddr 1 (.tmp 4)), (none, .store 1 (.tmp 14) (.tmp 13))]⟩]) .skip)) (.seq (.seq (.region [⟨none, [(some 15, .mv (.tmp 3)), (some 16, .nilchk
    (.tmp 15)), (some 17, .faddr 0 (.tmp 16)), (some 18, .load false 1 (.tmp 17)), (some 19, .len (.tmp 18)), (some 20, .bin .gtr (.tmp 19) (.con (.int .i64 0)))]⟩]) (.cond (.tmp 20) (.region [⟨none, [(some 21, .mv (.tmp 3)), (some
    22, .call 279 [.tmp 21]), (some 23, .faddr 3 (.tmp 4)), (none, .store 1 (.tmp 23) (.tmp 22)), (some 24, .faddr 2 (.tmp 4)), (none, .store 1 (.tmp 24) (.con (.bool true)))]⟩]) .skip)) (.seq (.region [⟨none, [(some 25, .mv (.tmp
    3)), (some 26, .call 194 [.tmp 25])]⟩]) (.seq (.region [⟨none, [(some 27, .load true 4 (.tmp 4)), (none, .store 4 (.tmp 2) (.tmp 27))]⟩]) .ret))))))
theorem lowm_controlOf : lowerFO [] prog 193 = some ⟨28, [LRes.cell 2 true 4], Bm_controlOf⟩ := by kernel_rfl

@[irreducible] def Bm_row_ended : LCode :=
  .region [⟨none, [(some 2, .mv (.tmp 0)), (some 3, .nilchk (.tmp 2)), (some 4, .faddr 0 (.tmp 3)), (some 5, .load false 1 (.tmp 4)), (some 6, .len (.tmp 5)), (some 7, .bin .eql (.tmp 6) (.con (.int .i64 0))), (some 8, .call 272
    [.tmp 7])]⟩]
theorem lowm_row_ended : lowerFO [] prog 194 = some ⟨9, [], Bm_row_ended⟩ := by kernel_rfl

@[irreducible] def Bm_want : LCode :=
  .seq (.region [⟨none, [(some 2, .mv (.tmp 0)), (some 3, .un .not (.tmp 2))]⟩]) (.cond (.tmp 3) (.region [⟨none, [(some 4, .iface 32 (.con (.int .i64 70))), (none, .panic (.tmp 4))]⟩]) .skip)
theorem lowm_want : lowerFO [] prog 272 = some ⟨5, [], Bm_want⟩ := by kernel_rfl

@[irreducible] def Bm_text : LCode :=
  .seq (.region [⟨none, [(some 3, .box 68 (.tmp 0)), (some 6, .mv (.con (.str [])))]⟩]) (.seq (.region [⟨none, [(some 10, .load true 5 (.tmp 3)), (some 11, .mv (.tmp 1)), (some 12, .mv (.tmp 2)), (some 13, .call 313 [.tmp 10, .tmp
    11, .tmp 12]), (some 9, .mv (.tmp 13)), (some 14, .extr 0 (.tmp 9)), (some 15, .extr 1 (.tmp 9)), (some 7, .mv (.tmp 14)), (some 8, .mv (.tmp 15))]⟩]) (.seq (.region [⟨none, [(some 16, .mv (.tmp 8)), (some 17, .bin .eql (.tmp
    16) (.con (.int .i64 0))), (some 18, .call 272 [.tmp 17])]⟩]) (.seq (.region [⟨none, [(some 19, .mv (.tmp 7)), (some 6, .mv (.tmp 19))]⟩]) .ret)))
theorem lowm_text : lowerFO [] prog 273 = some ⟨20, [LRes.tmp 6], Bm_text⟩ := by kernel_rfl

@[irreducible] def Bm_opOf_1 : LCode :=
  .region [⟨none, [(some 2, .load false 1 (.tmp 0)), (some 3, .load false 1 (.tmp 1)), (some 4, .call 275 [.tmp 2, .tmp 3])]⟩]
theorem lowm_opOf_1 : lowerFO [] prog 274 = some ⟨5, [], Bm_opOf_1⟩ := by kernel_rfl

@[irreducible] def Bm_bindOf : LCode :=
  .seq (.region [⟨none, [(some 7, .mv (.tmp 0)), (some 8, .mv (.tmp 0)), (some 9, .mv (.tmp 1)), (some 10, .call 189 [.tmp 9, .con (.int .i64 2)]), (some 11, .mv (.tmp 1)), (some 12, .call 279 [.tmp 11]), (some 13, .nilchk (.tmp
    7)), (some 14, .faddr 3 (.tmp 13)), (none, .store 1 (.tmp 14) (.tmp 10)), (some 15, .nilchk (.tmp 8)), (some 16, .faddr 2 (.tmp 15)), (none, .store 1 (.tmp 16) (.tmp 12))]⟩]) (.seq (.region [⟨none, [(some 18, .mv (.tmp 1)),
    (some 19, .call 314 [.tmp 18, .con (.int .i64 0)]), (some 17, .mv (.tmp 19)), (some 20, .extr 0 (.tmp 17)), (some 21, .extr 1 (.tmp 17)), (some 4, .mv (.tmp 20)), (some 5, .mv (.tmp 21))]⟩]) (.seq (.region [⟨none, [(some 22, .mv
    (.tmp 0)), (some 23, .mv (.tmp 4)), (some 24, .nilchk (.tmp 22)), (some 25, .faddr 5 (.tmp 24)), (none, .store 1 (.tmp 25) (.tmp 23))]⟩]) (.seq (.region [⟨none, [(some 26, .mv (.tmp 5)), (some 27, .un .not (.tmp 26))]⟩]) (.cond
    (.tmp 27) (.seq (.region [⟨none, [(some 28, .mv (.tmp 0)), (some 29, .nilchk (.tmp 28)), (some 30, .faddr 4 (.tmp 29)), (none, .store 1 (.tmp 30) (.con (.bool true)))]⟩]) (.seq (.region [⟨none, [(some 31, .mv (.tmp 1)), (some
    32, .call 191 [.tmp 31]), (some 33, .call 188 [.tmp 32, .con (.int .i64 2), .con (.int .i64 3)]), (some 6, .mv (.tmp 33))]⟩]) (.seq (.region [⟨none, [(some 34, .mv (.tmp 0)), (some 35, .mv (.tmp 6)), (some 36, .call 279 [.tmp
    35]), (some 37, .nilchk (.tmp 34)), (some 38, .faddr 5 (.tmp 37)), (none, .store 1 (.tmp 38) (.tmp 36))]⟩]) (.seq (.seq (.region [⟨none, [(some 39, .mv (.tmp 6)), (some 40, .nilchk (.tmp 39)), (some 41, .faddr 0 (.tmp 40)),
    (some 42, .load false 1 (.tmp 41)), (some 43, .len (.tmp 42)), (some 44, .bin .gtr (.tmp 43) (.con (.int .i64 0)))]⟩]) (.cond (.tmp 44) (.region [⟨none, [(some 45, .mv (.tmp 6)), (some 46, .call 279 [.tmp 45])]⟩]) .skip))
    (.region [⟨none, [(some 47, .mv (.tmp 6)), (some 48, .call 194 [.tmp 47])]⟩]))))) .skip))))
theorem lowm_bindOf : lowerFO [] prog 275 = some ⟨49, [], Bm_bindOf⟩ := by kernel_rfl

@[irreducible] def Bm_opOf_2 : LCode :=
  .region [⟨none, [(some 2, .load false 1 (.tmp 0)), (some 3, .load false 1 (.tmp 1)), (some 4, .call 277 [.tmp 2, .tmp 3])]⟩]
theorem lowm_opOf_2 : lowerFO [] prog 276 = some ⟨5, [], Bm_opOf_2⟩ := by kernel_rfl

@[irreducible] def Bm_searchOf : LCode :=
  .seq (.region [⟨none, [(some 4, .mv (.tmp 0)), (some 5, .mv (.tmp 0)), (some 6, .mv (.tmp 0)), (some 7, .mv (.tmp 1)), (some 8, .call 279 [.tmp 7]), (some 9, .mv (.tmp 1)), (some 10, .call 189 [.tmp 9, .con (.int .i64 10)]), (some
    11, .mv (.tmp 1)), (some 12, .call 189 [.tmp 11, .con (.int .i64 10)]), (some 13, .nilchk (.tmp 4)), (some 14, .faddr 2 (.tmp 13)), (none, .store 1 (.tmp 14) (.tmp 8)), (some 15, .nilchk (.tmp 5)), (some 16, .faddr 6 (.tmp 15)),
    (none, .store 1 (.tmp 16) (.tmp 10)), (some 17, .nilchk (.tmp 6)), (some 18, .faddr 7 (.tmp 17)), (none, .store 1 (.tmp 18) (.tmp 12))]⟩]) (.seq (.region [⟨none, [(some 19, .mv (.tmp 0)), (some 20, .mv (.tmp 0)), (some 21, .mv
    (.tmp 0)), (some 22, .mv (.tmp 1)), (some 23, .call 189 [.tmp 22, .con (.int .i64 2)]), (some 24, .mv (.tmp 1)), (some 25, .call 189 [.tmp 24, .con (.int .i64 2)]), (some 26, .mv (.tmp 1)), (some 27, .call 292 [.tmp 26]), (some
    28, .nilchk (.tmp 19)), (some 29, .faddr 8 (.tmp 28)), (none, .store 1 (.tmp 29) (.tmp 23)), (some 30, .nilchk (.tmp 20)), (some 31, .faddr 9 (.tmp 30)), (none, .store 1 (.tmp 31) (.tmp 25)), (some 32, .nilchk (.tmp 21)), (some
    33, .faddr 10 (.tmp 32)), (none, .store 1 (.tmp 33) (.tmp 27))]⟩]) (.seq (.region [⟨none, [(some 34, .mv (.tmp 0)), (some 35, .mv (.tmp 1)), (some 36, .call 191 [.tmp 35]), (some 37, .call 315 [.tmp 36, .con (.lit (.slice none 0
    0))]), (some 38, .nilchk (.tmp 34)), (some 39, .faddr 11 (.tmp 38)), (none, .store 1 (.tmp 39) (.tmp 37))]⟩]) (.region [⟨none, [(some 40, .mv (.tmp 0)), (some 41, .mv (.tmp 1)), (some 42, .call 191 [.tmp 41]), (some 43, .call
    188 [.tmp 42, .con (.int .i64 0), .con (.int .i64 16)]), (some 44, .call 316 [.tmp 43]), (some 45, .nilchk (.tmp 40)), (some 46, .faddr 12 (.tmp 45)), (none, .store 1 (.tmp 46) (.tmp 44))]⟩])))
theorem lowm_searchOf : lowerFO [] prog 277 = some ⟨47, [], Bm_searchOf⟩ := by kernel_rfl

@[irreducible] def Bm_opOf_3 : LCode :=
  .quiet [⟨some 2, none, .load false 1 (.tmp 1), false, 0, 0⟩, ⟨some 3, none, .load false 1 (.tmp 1), false, 0, 1⟩, ⟨some 4, none, .load false 1 (.tmp 0), false, 0, 0⟩, ⟨some 5, none, .call 279 [.tmp 4], false, 0, 0⟩, ⟨some 6, none,
    .load false 1 (.tmp 0), false, 0, 1⟩, ⟨some 7, none, .call 191 [.tmp 6], false, 0, 0⟩, ⟨some 8, none, .call 280 [.tmp 7], false, 0, 0⟩, ⟨some 9, none, .nilchk (.tmp 2), false, 0, 1⟩, ⟨some 10, none, .faddr 2 (.tmp 9), false, 0,
    0⟩, ⟨none, none, .store 1 (.tmp 10) (.tmp 5), true, 0, 0⟩, ⟨some 11, none, .nilchk (.tmp 3), false, 0, 1⟩, ⟨some 12, none, .faddr 13 (.tmp 11), false, 0, 0⟩, ⟨none, none, .store 1 (.tmp 12) (.tmp 8), true, 0, 0⟩]
theorem lowm_opOf_3 : lowerFO [] prog 278 = some ⟨13, [], Bm_opOf_3⟩ := by kernel_rfl

@[irreducible] def Bm_row_str : LCode :=
  .seq (.region [⟨none, [(some 2, .mv (.con (.str [])))]⟩]) (.seq (.region [⟨none, [(some 3, .mv (.tmp 0)), (some 4, .call 191 [.tmp 3]), (some 5, .call 273 [.tmp 4, .con (.int .i64 0), .con (.int .i64 4)]), (some 2, .mv (.tmp
    5))]⟩]) .ret)
theorem lowm_row_str : lowerFO [] prog 279 = some ⟨6, [LRes.tmp 2], Bm_row_str⟩ := by kernel_rfl

@[irreducible] def Bm_modsOf : LCode :=
  .seq (.region [⟨none, [(some 1, .box 68 (.tmp 0)), (some 2, .mv (.con (.lit (.slice none 0 0))))]⟩]) (.seq (.region [⟨none, [(some 3, .mv (.con (.lit (.slice none 0 0))))]⟩]) (.seq (.seq (.region [⟨none, [(some 8, .load true 5
    (.tmp 1)), (some 9, .call 188 [.tmp 8, .con (.int .i64 0), .con (.int .i64 16)]), (some 4, .mv (.tmp 9))]⟩]) (.block 0 (.loop (.seq (.seq (.region [⟨none, [(some 10, .mv (.tmp 4)), (some 11, .nilchk (.tmp 10)), (some 12, .faddr
    0 (.tmp 11)), (some 13, .load false 1 (.tmp 12)), (some 14, .len (.tmp 13)), (some 15, .bin .gtr (.tmp 14) (.con (.int .i64 0)))]⟩]) (.cond (.tmp 15) .skip (.exit 0))) (.block 1 (.seq (.region [⟨none, [(some 16, .mv (.tmp 4)),
    (some 17, .call 191 [.tmp 16]), (some 18, .call 188 [.tmp 17, .con (.int .i64 0), .con (.int .i64 16)]), (some 5, .mv (.tmp 18))]⟩]) (.seq (.region [⟨none, [(some 19, .mv (.tmp 5)), (some 20, .call 189 [.tmp 19, .con (.int .i64
    10)]), (some 6, .mv (.tmp 20))]⟩]) (.seq (.region [⟨none, [(some 21, .mv (.tmp 5)), (some 22, .call 191 [.tmp 21]), (some 23, .call 317 [.tmp 22]), (some 7, .alloc 79 [.str [], .lit (.slice none 0 0)]), (none, .store 2 (.tmp 7)
    (.tmp 23))]⟩]) (.seq (.region [⟨none, [(some 24, .mv (.tmp 5)), (some 25, .call 194 [.tmp 24])]⟩]) (.region [⟨none, [(some 26, .mv (.tmp 3)), (some 27, .mv (.tmp 6)), (some 28, .faddr 0 (.tmp 7)), (some 29, .load false 1 (.tmp
    28)), (some 30, .faddr 1 (.tmp 7)), (some 31, .load false 1 (.tmp 30)), (some 32, .build [.int .i64 0, .str [], .lit (.slice none 0 0)] [(0, 1, .tmp 27), (1, 1, .tmp 29), (2, 1, .tmp 31)]), (some 33, .bslice 81 3 [.tmp 32]),
    (some 34, .append false 81 3 48 (.tmp 26) (.tmp 33)), (some 3, .mv (.tmp 34))]⟩])))))))))) (.seq (.region [⟨none, [(some 35, .mv (.tmp 3)), (some 2, .mv (.tmp 35))]⟩]) .ret)))
theorem lowm_modsOf : lowerFO [] prog 280 = some ⟨36, [LRes.tmp 2], Bm_modsOf⟩ := by kernel_rfl

@[irreducible] def Bm_opOf_4 : LCode :=
  .quiet [⟨some 2, none, .load false 1 (.tmp 1), false, 0, 0⟩, ⟨some 3, none, .load false 1 (.tmp 1), false, 0, 1⟩, ⟨some 4, none, .load false 1 (.tmp 0), false, 0, 0⟩, ⟨some 5, none, .call 279 [.tmp 4], false, 0, 0⟩, ⟨some 6, none,
    .load false 1 (.tmp 0), false, 0, 1⟩, ⟨some 7, none, .call 191 [.tmp 6], false, 0, 0⟩, ⟨some 8, none, .call 282 [.tmp 7], false, 0, 0⟩, ⟨some 9, none, .nilchk (.tmp 2), false, 0, 1⟩, ⟨some 10, none, .faddr 2 (.tmp 9), false, 0,
    0⟩, ⟨none, none, .store 1 (.tmp 10) (.tmp 5), true, 0, 0⟩, ⟨some 11, none, .nilchk (.tmp 3), false, 0, 1⟩, ⟨some 12, none, .faddr 14 (.tmp 11), false, 0, 0⟩, ⟨none, none, .store 1 (.tmp 12) (.tmp 8), true, 0, 0⟩]
theorem lowm_opOf_4 : lowerFO [] prog 281 = some ⟨13, [], Bm_opOf_4⟩ := by kernel_rfl

@[irreducible] def Bm_attrsOf : LCode :=
  .seq (.region [⟨none, [(some 1, .box 68 (.tmp 0)), (some 2, .mv (.con (.lit (.slice none 0 0))))]⟩]) (.seq (.region [⟨none, [(some 3, .mv (.con (.lit (.slice none 0 0))))]⟩]) (.seq (.seq (.region [⟨none, [(some 5, .load true 5
    (.tmp 1)), (some 6, .call 188 [.tmp 5, .con (.int .i64 0), .con (.int .i64 16)]), (some 4, .mv (.tmp 6))]⟩]) (.block 0 (.loop (.seq (.seq (.region [⟨none, [(some 7, .mv (.tmp 4)), (some 8, .nilchk (.tmp 7)), (some 9, .faddr 0
    (.tmp 8)), (some 10, .load false 1 (.tmp 9)), (some 11, .len (.tmp 10)), (some 12, .bin .gtr (.tmp 11) (.con (.int .i64 0)))]⟩]) (.cond (.tmp 12) .skip (.exit 0))) (.block 1 (.region [⟨none, [(some 13, .mv (.tmp 3)), (some 14,
    .mv (.tmp 4)), (some 15, .call 191 [.tmp 14]), (some 16, .call 317 [.tmp 15]), (some 17, .bslice 79 2 [.tmp 16]), (some 18, .append false 79 2 40 (.tmp 13) (.tmp 17)), (some 3, .mv (.tmp 18))]⟩])))))) (.seq (.region [⟨none,
    [(some 19, .mv (.tmp 3)), (some 2, .mv (.tmp 19))]⟩]) .ret)))
theorem lowm_attrsOf : lowerFO [] prog 282 = some ⟨20, [LRes.tmp 2], Bm_attrsOf⟩ := by kernel_rfl

@[irreducible] def Bm_opOf_5 : LCode :=
  .quiet [⟨some 2, none, .load false 1 (.tmp 1), false, 0, 0⟩, ⟨some 3, none, .load false 1 (.tmp 1), false, 0, 1⟩, ⟨some 4, none, .load false 1 (.tmp 0), false, 0, 0⟩, ⟨some 5, none, .call 279 [.tmp 4], false, 0, 0⟩, ⟨some 6, none,
    .load false 1 (.tmp 0), false, 0, 1⟩, ⟨some 7, none, .call 191 [.tmp 6], false, 0, 0⟩, ⟨some 8, none, .call 282 [.tmp 7], false, 0, 0⟩, ⟨some 9, none, .nilchk (.tmp 2), false, 0, 1⟩, ⟨some 10, none, .faddr 2 (.tmp 9), false, 0,
    0⟩, ⟨none, none, .store 1 (.tmp 10) (.tmp 5), true, 0, 0⟩, ⟨some 11, none, .nilchk (.tmp 3), false, 0, 1⟩, ⟨some 12, none, .faddr 14 (.tmp 11), false, 0, 0⟩, ⟨none, none, .store 1 (.tmp 12) (.tmp 8), true, 0, 0⟩]
theorem lowm_opOf_5 : lowerFO [] prog 283 = some ⟨13, [], Bm_opOf_5⟩ := by kernel_rfl

@[irreducible] def Bm_opOf_6 : LCode :=
  .region [⟨none, [(some 2, .load false 1 (.tmp 0)), (some 3, .load false 1 (.tmp 1)), (some 4, .call 285 [.tmp 2, .tmp 3])]⟩]
theorem lowm_opOf_6 : lowerFO [] prog 284 = some ⟨5, [], Bm_opOf_6⟩ := by kernel_rfl

@[irreducible] def Bm_moveOf : LCode :=
  .seq (.region [⟨none, [(some 4, .mv (.tmp 0)), (some 5, .mv (.tmp 0)), (some 6, .mv (.tmp 0)), (some 7, .mv (.tmp 1)), (some 8, .call 279 [.tmp 7]), (some 9, .mv (.tmp 1)), (some 10, .call 279 [.tmp 9]), (some 11, .mv (.tmp 1)),
    (some 12, .call 292 [.tmp 11]), (some 13, .nilchk (.tmp 4)), (some 14, .faddr 2 (.tmp 13)), (none, .store 1 (.tmp 14) (.tmp 8)), (some 15, .nilchk (.tmp 5)), (some 16, .faddr 15 (.tmp 15)), (none, .store 1 (.tmp 16) (.tmp 10)),
    (some 17, .nilchk (.tmp 6)), (some 18, .faddr 17 (.tmp 17)), (none, .store 1 (.tmp 18) (.tmp 12))]⟩]) (.region [⟨none, [(some 20, .mv (.tmp 0)), (some 21, .mv (.tmp 0)), (some 22, .mv (.tmp 1)), (some 23, .call 314 [.tmp 22,
    .con (.int .i64 0)]), (some 19, .mv (.tmp 23)), (some 24, .extr 0 (.tmp 19)), (some 25, .extr 1 (.tmp 19)), (some 26, .nilchk (.tmp 20)), (some 27, .faddr 16 (.tmp 26)), (none, .store 1 (.tmp 27) (.tmp 24)), (some 28, .nilchk
    (.tmp 21)), (some 29, .faddr 18 (.tmp 28)), (none, .store 1 (.tmp 29) (.tmp 25))]⟩])
theorem lowm_moveOf : lowerFO [] prog 285 = some ⟨30, [], Bm_moveOf⟩ := by kernel_rfl

@[irreducible] def Bm_opOf_7 : LCode :=
  .region [⟨none, [(some 2, .load false 1 (.tmp 0)), (some 3, .load false 1 (.tmp 1)), (some 4, .call 287 [.tmp 2, .tmp 3])]⟩]
theorem lowm_opOf_7 : lowerFO [] prog 286 = some ⟨5, [], Bm_opOf_7⟩ := by kernel_rfl

@[irreducible] def Bm_compareOf : LCode :=
  .seq (.region [⟨none, [(some 5, .mv (.tmp 0)), (some 6, .mv (.tmp 1)), (some 7, .call 279 [.tmp 6]), (some 8, .nilchk (.tmp 5)), (some 9, .faddr 2 (.tmp 8)), (none, .store 1 (.tmp 9) (.tmp 7))]⟩]) (.seq (.region [⟨none, [(some 10,
    .mv (.tmp 1)), (some 11, .call 191 [.tmp 10]), (some 12, .call 188 [.tmp 11, .con (.int .i64 0), .con (.int .i64 16)]), (some 4, .mv (.tmp 12))]⟩]) (.seq (.region [⟨none, [(some 13, .mv (.tmp 0)), (some 14, .mv (.tmp 0)), (some
    15, .mv (.tmp 4)), (some 16, .call 279 [.tmp 15]), (some 17, .mv (.tmp 4)), (some 18, .call 279 [.tmp 17]), (some 19, .nilchk (.tmp 13)), (some 20, .faddr 19 (.tmp 19)), (none, .store 1 (.tmp 20) (.tmp 16)), (some 21, .nilchk
    (.tmp 14)), (some 22, .faddr 20 (.tmp 21)), (none, .store 1 (.tmp 22) (.tmp 18))]⟩]) (.region [⟨none, [(some 23, .mv (.tmp 4)), (some 24, .call 194 [.tmp 23])]⟩])))
theorem lowm_compareOf : lowerFO [] prog 287 = some ⟨25, [], Bm_compareOf⟩ := by kernel_rfl

@[irreducible] def Bm_opOf_8 : LCode :=
  .region [⟨none, [(some 2, .load false 1 (.tmp 0)), (some 3, .load false 1 (.tmp 1)), (some 4, .call 289 [.tmp 2, .tmp 3])]⟩]
theorem lowm_opOf_8 : lowerFO [] prog 288 = some ⟨5, [], Bm_opOf_8⟩ := by kernel_rfl

@[irreducible] def Bm_extendOf : LCode :=
  .seq (.region [⟨none, [(some 4, .mv (.tmp 0)), (some 5, .mv (.tmp 1)), (some 6, .call 191 [.tmp 5]), (some 7, .call 273 [.tmp 6, .con (.int .i64 2), .con (.int .i64 0)]), (some 8, .nilchk (.tmp 4)), (some 9, .faddr 21 (.tmp 8)),
    (none, .store 1 (.tmp 9) (.tmp 7))]⟩]) (.region [⟨none, [(some 11, .mv (.tmp 0)), (some 12, .mv (.tmp 0)), (some 13, .mv (.tmp 1)), (some 14, .call 314 [.tmp 13, .con (.int .i64 1)]), (some 10, .mv (.tmp 14)), (some 15, .extr 0
    (.tmp 10)), (some 16, .extr 1 (.tmp 10)), (some 17, .nilchk (.tmp 11)), (some 18, .faddr 20 (.tmp 17)), (none, .store 1 (.tmp 18) (.tmp 15)), (some 19, .nilchk (.tmp 12)), (some 20, .faddr 22 (.tmp 19)), (none, .store 1 (.tmp
    20) (.tmp 16))]⟩])
theorem lowm_extendOf : lowerFO [] prog 289 = some ⟨21, [], Bm_extendOf⟩ := by kernel_rfl

@[irreducible] def Bm_opOf_9 : LCode :=
  .region [⟨none, [(some 2, .load false 1 (.tmp 0)), (some 3, .load false 1 (.tmp 1)), (some 4, .call 291 [.tmp 2, .tmp 3])]⟩]
theorem lowm_opOf_9 : lowerFO [] prog 290 = some ⟨5, [], Bm_opOf_9⟩ := by kernel_rfl

@[irreducible] def Bm_answerOf : LCode :=
  .seq (.region [⟨none, [(some 6, .mv (.tmp 0)), (some 7, .mv (.tmp 0)), (some 8, .mv (.tmp 0)), (some 9, .mv (.tmp 1)), (some 10, .call 189 [.tmp 9, .con (.int .i64 10)]), (some 11, .mv (.tmp 1)), (some 12, .call 279 [.tmp 11]),
    (some 13, .mv (.tmp 1)), (some 14, .call 279 [.tmp 13]), (some 15, .nilchk (.tmp 6)), (some 16, .faddr 24 (.tmp 15)), (none, .store 1 (.tmp 16) (.tmp 10)), (some 17, .nilchk (.tmp 7)), (some 18, .faddr 25 (.tmp 17)), (none,
    .store 1 (.tmp 18) (.tmp 12)), (some 19, .nilchk (.tmp 8)), (some 20, .faddr 26 (.tmp 19)), (none, .store 1 (.tmp 20) (.tmp 14))]⟩]) (.seq (.seq (.region [⟨none, [(some 21, .mv (.tmp 0)), (some 22, .nilchk (.tmp 21)), (some 23,
    .faddr 1 (.tmp 22)), (some 24, .load false 1 (.tmp 23)), (some 25, .bin .neq (.tmp 24) (.con (.int .i64 24)))]⟩]) (.cond (.tmp 25) .ret .skip)) (.seq (.region [⟨none, [(some 27, .mv (.tmp 1)), (some 28, .call 314 [.tmp 27, .con
    (.int .i64 10)]), (some 26, .mv (.tmp 28)), (some 29, .extr 0 (.tmp 26)), (some 30, .extr 1 (.tmp 26)), (some 4, .mv (.tmp 29)), (some 5, .mv (.tmp 30))]⟩]) (.seq (.region [⟨none, [(some 31, .mv (.tmp 5)), (some 32, .un .not
    (.tmp 31)), (some 33, .mv (.tmp 32))]⟩, ⟨some (33, false), [(some 34, .mv (.tmp 4)), (some 35, .bin .neq (.tmp 34) (.con (.str [])))]⟩, ⟨none, [(some 36, .pick (.tmp 33) (.con (.bool true)) (.tmp 35)), (some 37, .call 272 [.tmp
    36])]⟩]) (.seq (.region [⟨none, [(some 38, .mv (.tmp 0)), (some 39, .mv (.tmp 4)), (some 40, .nilchk (.tmp 38)), (some 41, .faddr 21 (.tmp 40)), (none, .store 1 (.tmp 41) (.tmp 39))]⟩]) (.region [⟨none, [(some 43, .mv (.tmp 0)),
    (some 44, .mv (.tmp 0)), (some 45, .mv (.tmp 1)), (some 46, .call 314 [.tmp 45, .con (.int .i64 11)]), (some 42, .mv (.tmp 46)), (some 47, .extr 0 (.tmp 42)), (some 48, .extr 1 (.tmp 42)), (some 49, .nilchk (.tmp 43)), (some 50,
    .faddr 20 (.tmp 49)), (none, .store 1 (.tmp 50) (.tmp 47)), (some 51, .nilchk (.tmp 44)), (some 52, .faddr 22 (.tmp 51)), (none, .store 1 (.tmp 52) (.tmp 48))]⟩])))))
theorem lowm_answerOf : lowerFO [] prog 291 = some ⟨53, [], Bm_answerOf⟩ := by kernel_rfl

@[irreducible] def Bm_row_flag : LCode :=
  .seq (.region [⟨none, [(some 2, .mv (.con (.bool false)))]⟩]) (.seq (.region [⟨none, [(some 6, .mv (.tmp 0)), (some 7, .call 191 [.tmp 6]), (some 8, .call 318 [.tmp 7, .con (.int .i64 0), .con (.int .i64 1)]), (some 5, .mv (.tmp
    8)), (some 9, .extr 0 (.tmp 5)), (some 10, .extr 1 (.tmp 5)), (some 3, .mv (.tmp 9)), (some 4, .mv (.tmp 10))]⟩]) (.seq (.region [⟨none, [(some 11, .mv (.tmp 4)), (some 12, .bin .eql (.tmp 11) (.con (.int .i64 0))), (some 13,
    .call 272 [.tmp 12])]⟩]) (.seq (.region [⟨none, [(some 14, .mv (.tmp 3)), (some 2, .mv (.tmp 14))]⟩]) .ret)))
theorem lowm_row_flag : lowerFO [] prog 292 = some ⟨15, [LRes.tmp 2], Bm_row_flag⟩ := by kernel_rfl

@[irreducible] def Bm_row_opt : LCode :=
  .seq (.region [⟨none, [(some 4, .mv (.con (.str []))), (some 5, .mv (.con (.bool false)))]⟩]) (.seq (.seq (.region [⟨none, [(some 6, .mv (.tmp 0)), (some 7, .mv (.tmp 1)), (some 8, .call 192 [.tmp 6, .con (.int .i64 2), .tmp 7]),
    (some 9, .un .not (.tmp 8))]⟩]) (.cond (.tmp 9) (.seq (.region [⟨none, [(some 4, .mv (.con (.str []))), (some 5, .mv (.con (.bool false)))]⟩]) .ret) .skip)) (.seq (.region [⟨none, [(some 10, .mv (.tmp 0)), (some 11, .call 191
    [.tmp 10]), (some 12, .mv (.tmp 1)), (some 13, .call 273 [.tmp 11, .con (.int .i64 2), .tmp 12]), (some 4, .mv (.tmp 13)), (some 5, .mv (.con (.bool true)))]⟩]) .ret))
theorem lowm_row_opt : lowerFO [] prog 314 = some ⟨14, [LRes.tmp 4, LRes.tmp 5], Bm_row_opt⟩ := by kernel_rfl

@[irreducible] def Bm_filterOf : LCode :=
  .seq (.region [⟨none, [(some 2, .box 68 (.tmp 0)), (some 4, .mv (.con (.lit (.slice none 0 0))))]⟩]) (.seq (.region [⟨none, [(some 9, .faddr 1 (.tmp 2)), (some 10, .load false 1 (.tmp 9)), (some 11, .build [.int .i64 0, .int .i64
    0, .str [], .str [], .str [], .str [], .lit (.slice none 0 0)] [(0, 1, .tmp 10)]), (some 5, .alloc 83 [.int .i64 0, .int .i64 0, .str [], .str [], .str [], .str [], .lit (.slice none 0 0)]), (none, .store 7 (.tmp 5) (.tmp
    11))]⟩]) (.seq (.seq (.region [⟨none, [(some 12, .faddr 1 (.tmp 2)), (some 13, .load false 1 (.tmp 12))]⟩]) (.block 0 (.seq (.seq (.region [⟨none, [(some 27, .bin .eql (.tmp 13) (.con (.int .i64 0))), (some 26, .mv (.tmp
    27))]⟩]) (.cond (.tmp 26) .skip (.seq (.region [⟨none, [(some 28, .bin .eql (.tmp 13) (.con (.int .i64 1))), (some 26, .mv (.tmp 28))]⟩]) (.cond (.tmp 26) .skip (.region [⟨none, [(some 29, .bin .eql (.tmp 13) (.con (.int .i64
    2))), (some 26, .mv (.tmp 29))]⟩]))))) (.cond (.tmp 26) (.seq (.region [⟨none, [(some 30, .load true 5 (.tmp 2)), (some 31, .faddr 1 (.tmp 2)), (some 32, .load false 1 (.tmp 31)), (some 33, .call 188 [.tmp 30, .con (.int .i64
    2), .tmp 32]), (some 6, .mv (.tmp 33))]⟩]) (.seq (.region [⟨none, [(some 34, .mv (.tmp 6)), (some 35, .nilchk (.tmp 34)), (some 36, .faddr 0 (.tmp 35)), (some 37, .load false 1 (.tmp 36)), (some 38, .len (.tmp 37)), (some 39,
    .faddr 1 (.tmp 5)), (none, .store 1 (.tmp 39) (.tmp 38))]⟩]) (.seq (.region [⟨none, [(some 40, .mv (.tmp 1)), (some 41, .load true 7 (.tmp 5)), (some 42, .bslice 83 7 [.tmp 41]), (some 43, .append false 83 7 104 (.tmp 40) (.tmp
    42)), (some 1, .mv (.tmp 43))]⟩]) (.seq (.block 1 (.loop (.seq (.seq (.region [⟨none, [(some 44, .mv (.tmp 6)), (some 45, .nilchk (.tmp 44)), (some 46, .faddr 0 (.tmp 45)), (some 47, .load false 1 (.tmp 46)), (some 48, .len
    (.tmp 47)), (some 49, .bin .gtr (.tmp 48) (.con (.int .i64 0)))]⟩]) (.cond (.tmp 49) .skip (.exit 1))) (.block 2 (.region [⟨none, [(some 50, .mv (.tmp 6)), (some 51, .call 191 [.tmp 50]), (some 52, .mv (.tmp 1)), (some 53, .call
    315 [.tmp 51, .tmp 52]), (some 1, .mv (.tmp 53))]⟩]))))) (.seq (.region [⟨none, [(some 54, .mv (.tmp 1)), (some 4, .mv (.tmp 54))]⟩]) .ret))))) (.seq (.region [⟨none, [(some 56, .bin .eql (.tmp 13) (.con (.int .i64 7))), (some
    55, .mv (.tmp 56))]⟩]) (.cond (.tmp 55) (.region [⟨none, [(some 57, .load true 5 (.tmp 2)), (some 58, .faddr 1 (.tmp 2)), (some 59, .load false 1 (.tmp 58)), (some 60, .call 273 [.tmp 57, .con (.int .i64 2), .tmp 59]), (some 61,
    .faddr 2 (.tmp 5)), (none, .store 1 (.tmp 61) (.tmp 60))]⟩]) (.seq (.region [⟨none, [(some 63, .bin .eql (.tmp 13) (.con (.int .i64 4))), (some 62, .mv (.tmp 63))]⟩]) (.cond (.tmp 62) (.seq (.region [⟨none, [(some 64, .load true
    5 (.tmp 2)), (some 65, .faddr 1 (.tmp 2)), (some 66, .load false 1 (.tmp 65)), (some 67, .call 188 [.tmp 64, .con (.int .i64 2), .tmp 66]), (some 7, .mv (.tmp 67))]⟩]) (.seq (.region [⟨none, [(some 68, .mv (.tmp 7)), (some 69,
    .call 279 [.tmp 68]), (some 70, .faddr 2 (.tmp 5)), (none, .store 1 (.tmp 70) (.tmp 69))]⟩]) (.seq (.region [⟨none, [(some 71, .mv (.tmp 7)), (some 72, .call 191 [.tmp 71]), (some 73, .call 188 [.tmp 72, .con (.int .i64 0), .con
    (.int .i64 16)]), (some 74, .call 326 [.tmp 5, .tmp 73])]⟩]) (.region [⟨none, [(some 75, .mv (.tmp 7)), (some 76, .call 194 [.tmp 75])]⟩])))) (.seq (.region [⟨none, [(some 14, .load true 5 (.tmp 2)), (some 15, .faddr 1 (.tmp
    2)), (some 16, .load false 1 (.tmp 15)), (some 17, .call 188 [.tmp 14, .con (.int .i64 2), .tmp 16]), (some 8, .mv (.tmp 17))]⟩]) (.seq (.region [⟨none, [(some 18, .mv (.tmp 8)), (some 19, .call 279 [.tmp 18]), (some 20, .mv
    (.tmp 8)), (some 21, .call 279 [.tmp 20]), (some 22, .faddr 2 (.tmp 5)), (none, .store 1 (.tmp 22) (.tmp 19)), (some 23, .faddr 3 (.tmp 5)), (none, .store 1 (.tmp 23) (.tmp 21))]⟩]) (.region [⟨none, [(some 24, .mv (.tmp 8)),
    (some 25, .call 194 [.tmp 24])]⟩]))))))))))) (.seq (.region [⟨none, [(some 77, .mv (.tmp 1)), (some 78, .load true 7 (.tmp 5)), (some 79, .bslice 83 7 [.tmp 78]), (some 80, .append false 83 7 104 (.tmp 77) (.tmp 79)), (some 4,
    .mv (.tmp 80))]⟩]) .ret)))
theorem lowm_filterOf : lowerFO [] prog 315 = some ⟨81, [LRes.tmp 4], Bm_filterOf⟩ := by kernel_rfl

@[irreducible] def Bm_row_strs : LCode :=
  .seq (.region [⟨none, [(some 2, .mv (.con (.lit (.slice none 0 0))))]⟩]) (.seq (.region [⟨none, [(some 3, .mv (.con (.lit (.slice none 0 0))))]⟩]) (.seq (.block 0 (.loop (.seq (.seq (.region [⟨none, [(some 4, .mv (.tmp 0)), (some
    5, .nilchk (.tmp 4)), (some 6, .faddr 0 (.tmp 5)), (some 7, .load false 1 (.tmp 6)), (some 8, .len (.tmp 7)), (some 9, .bin .gtr (.tmp 8) (.con (.int .i64 0)))]⟩]) (.cond (.tmp 9) .skip (.exit 0))) (.block 1 (.region [⟨none,
    [(some 10, .mv (.tmp 3)), (some 11, .mv (.tmp 0)), (some 12, .call 279 [.tmp 11]), (some 13, .bslice 9 1 [.tmp 12]), (some 14, .append false 9 1 16 (.tmp 10) (.tmp 13)), (some 3, .mv (.tmp 14))]⟩]))))) (.seq (.region [⟨none,
    [(some 15, .mv (.tmp 3)), (some 2, .mv (.tmp 15))]⟩]) .ret)))
theorem lowm_row_strs : lowerFO [] prog 316 = some ⟨16, [LRes.tmp 2], Bm_row_strs⟩ := by kernel_rfl

@[irreducible] def Bm_attrOf : LCode :=
  .seq (.region [⟨none, [(some 1, .box 68 (.tmp 0)), (some 2, .alloc 79 [.str [], .lit (.slice none 0 0)])]⟩]) (.seq (.region [⟨none, [(some 5, .load true 5 (.tmp 1)), (some 6, .call 188 [.tmp 5, .con (.int .i64 0), .con (.int .i64
    16)]), (some 3, .mv (.tmp 6))]⟩]) (.seq (.region [⟨none, [(some 7, .mv (.tmp 3)), (some 8, .call 279 [.tmp 7]), (some 9, .build [.str [], .lit (.slice none 0 0)] [(0, 1, .tmp 8)]), (some 4, .alloc 79 [.str [], .lit (.slice none
    0 0)]), (none, .store 2 (.tmp 4) (.tmp 9))]⟩]) (.seq (.region [⟨none, [(some 10, .mv (.tmp 3)), (some 11, .call 191 [.tmp 10]), (some 12, .call 188 [.tmp 11, .con (.int .i64 0), .con (.int .i64 17)]), (some 13, .call 316 [.tmp
    12]), (some 14, .faddr 1 (.tmp 4)), (none, .store 1 (.tmp 14) (.tmp 13))]⟩]) (.seq (.region [⟨none, [(some 15, .mv (.tmp 3)), (some 16, .call 194 [.tmp 15])]⟩]) (.seq (.region [⟨none, [(some 17, .load true 2 (.tmp 4)), (none,
    .store 2 (.tmp 2) (.tmp 17))]⟩]) .ret)))))
theorem lowm_attrOf : lowerFO [] prog 317 = some ⟨18, [LRes.cell 2 true 2], Bm_attrOf⟩ := by kernel_rfl

@[irreducible] def Bm_piecesOf : LCode :=
  .seq (.region [⟨none, [(some 3, .box 197 (.tmp 1))]⟩]) (.seq (.region [⟨none, [(some 5, .mkfn (.func 335) [.tmp 3]), (some 4, .mv (.tmp 5))]⟩]) (.seq (.seq (.region [⟨none, [(some 6, .load false 1 (.tmp 3)), (some 7, .call 192
    [.tmp 6, .con (.int .i64 2), .con (.int .i64 0)])]⟩]) (.cond (.tmp 7) (.region [⟨none, [(some 8, .mv (.tmp 0)), (some 9, .mv (.tmp 4)), (some 10, .callv (.tmp 9) [.con (.int .i64 0)]), (some 11, .nilchk (.tmp 8)), (some 12,
    .faddr 4 (.tmp 11)), (none, .store 1 (.tmp 12) (.tmp 10))]⟩]) .skip)) (.seq (.block 0 (.loop (.seq (.seq (.region [⟨none, [(some 13, .load false 1 (.tmp 3)), (some 14, .call 192 [.tmp 13, .con (.int .i64 2), .con (.int .i64
    1)])]⟩]) (.cond (.tmp 14) .skip (.exit 0))) (.block 1 (.quiet [⟨some 15, none, .mv (.tmp 0), false, 0, 1⟩, ⟨some 16, none, .mv (.tmp 0), false, 0, 1⟩, ⟨some 17, none, .nilchk (.tmp 16), false, 0, 1⟩, ⟨some 18, none, .faddr 6
    (.tmp 17), false, 0, 1⟩, ⟨some 19, none, .load false 1 (.tmp 18), false, 0, 0⟩, ⟨some 20, none, .mv (.tmp 4), false, 0, 1⟩, ⟨some 21, none, .callv (.tmp 20) [.con (.int .i64 1)], false, 0, 0⟩, ⟨some 22, none, .bslice 9 1 [.tmp
    21], false, 0, 0⟩, ⟨some 23, none, .append false 9 1 16 (.tmp 19) (.tmp 22), true, 0, 0⟩, ⟨some 24, none, .nilchk (.tmp 15), false, 0, 1⟩, ⟨some 25, none, .faddr 6 (.tmp 24), false, 0, 0⟩, ⟨none, none, .store 1 (.tmp 25) (.tmp
    23), true, 0, 0⟩]))))) (.seq (.seq (.region [⟨none, [(some 26, .load false 1 (.tmp 3)), (some 27, .call 192 [.tmp 26, .con (.int .i64 2), .con (.int .i64 2)])]⟩]) (.cond (.tmp 27) (.region [⟨none, [(some 28, .mv (.tmp 0)), (some
    29, .mv (.tmp 4)), (some 30, .callv (.tmp 29) [.con (.int .i64 2)]), (some 31, .nilchk (.tmp 28)), (some 32, .faddr 5 (.tmp 31)), (none, .store 1 (.tmp 32) (.tmp 30))]⟩]) .skip)) (.region [⟨none, [(some 33, .load false 1 (.tmp
    3)), (some 34, .call 194 [.tmp 33])]⟩])))))
theorem lowm_piecesOf : lowerFO [] prog 326 = some ⟨35, [], Bm_piecesOf⟩ := by kernel_rfl

@[irreducible] def Bm_piecesOf_1 : LCode :=
  .seq (.region [⟨none, [(some 3, .mv (.con (.str [])))]⟩]) (.seq (.region [⟨none, [(some 5, .load false 1 (.tmp 1)), (some 6, .call 191 [.tmp 5]), (some 7, .mv (.tmp 0)), (some 8, .call 273 [.tmp 6, .con (.int .i64 2), .tmp 7]),
    (some 4, .mv (.tmp 8))]⟩]) (.seq (.region [⟨none, [(some 9, .mv (.tmp 4)), (some 10, .bin .neq (.tmp 9) (.con (.str []))), (some 11, .call 272 [.tmp 10])]⟩]) (.seq (.region [⟨none, [(some 12, .mv (.tmp 4)), (some 3, .mv (.tmp
    12))]⟩]) .ret)))
theorem lowm_piecesOf_1 : lowerFO [] prog 335 = some ⟨13, [LRes.tmp 3], Bm_piecesOf_1⟩ := by kernel_rfl

@[irreducible] def PAm_reads : LCode :=
  .region [⟨none, [(some 2, .alloc 4 [.bool false])]⟩]

@[irreducible] def PBm_reads : LCode :=
  .seq (.region [⟨none, [(some 4, .mv (.tmp 0)), (some 5, .callv (.tmp 4) [])]⟩]) (.seq (.region [⟨none, [(none, .store 1 (.tmp 2) (.con (.bool true)))]⟩]) .ret)

@[irreducible] def PDm_reads_1 : LCode :=
  .seq (.region [⟨none, [(some 5, .mv (.tmp 1)), (some 6, .inil true (.tmp 5))]⟩]) (.cond (.tmp 6) (.seq (.seq (.region [⟨none, [(some 8, .mv (.tmp 1)), (some 9, .tass 32 (.tmp 8)), (some 7, .mv (.tmp 9)), (some 10, .extr 0 (.tmp
    7)), (some 11, .extr 1 (.tmp 7)), (some 2, .mv (.tmp 10)), (some 3, .mv (.tmp 11))]⟩]) (.seq (.region [⟨none, [(some 12, .mv (.tmp 3)), (some 13, .un .not (.tmp 12))]⟩]) (.cond (.tmp 13) (.region [⟨none, [(some 14, .mv (.tmp
    1)), (none, .panic (.tmp 14))]⟩]) .skip))) (.region [⟨none, [(none, .store 1 (.tmp 0) (.con (.bool false)))]⟩])) .skip)

end Go.Proofs.YtajbeippbabhhaaGreatDoor.Eng

namespace Go.Proofs.YtajbeippbabhhaaGreatDoor.Eng
open Go Go.Proofs.Tryz

@[irreducible] def Bl9_alive : LCode :=
  .seq (.region [⟨none, [(some 0, .mv (.con (.bool false)))]⟩]) (.seq (.region [⟨none, [(some 6, .build [.int .i64 0, .int .i64 0, .str [], .int .i64 0, .bool false, .str [], .int .i64 0, .int .i64 0, .int .i64 0, .int .i64 0, .bool
    false, .lit (.slice none 0 0), .lit (.slice none 0 0), .lit (.slice none 0 0), .lit (.slice none 0 0), .str [], .str [], .bool false, .bool false, .str [], .str [], .str [], .bool false, .int .i64 0, .int .i64 0, .str [], .str
    [], .lit (.slice none 0 0)] [(0, 1, .con (.int .i64 2)), (1, 1, .con (.int .i64 0)), (3, 1, .con (.int .i64 3)), (5, 1, .con (.str [115]))]), (some 7, .call 13 [.tmp 6]), (some 5, .mv (.tmp 7)), (some 8, .extr 0 (.tmp 5)), (some
    9, .extr 1 (.tmp 5)), (some 1, .mv (.tmp 8)), (some 2, .mv (.tmp 9))]⟩]) (.seq (.region [⟨none, [(some 11, .call 18 [.con (.str [48, 9, 2, 1, 1, 74, 4, 100, 99, 61, 122])]), (some 10, .mv (.tmp 11)), (some 12, .extr 0 (.tmp
    10)), (some 13, .extr 1 (.tmp 10)), (some 3, .alloc 28 [.int .i64 0, .int .i64 0, .str [], .int .i64 0, .bool false, .str [], .int .i64 0, .int .i64 0, .int .i64 0, .int .i64 0, .bool false, .lit (.slice none 0 0), .lit (.slice
    none 0 0), .lit (.slice none 0 0), .lit (.slice none 0 0), .str [], .str [], .bool false, .bool false, .str [], .str [], .str [], .bool false, .int .i64 0, .int .i64 0, .str [], .str [], .lit (.slice none 0 0)]), (none, .store
    28 (.tmp 3) (.tmp 12)), (some 4, .mv (.tmp 13))]⟩]) (.seq (.region [⟨none, [(some 14, .mv (.tmp 2)), (some 15, .bin .eql (.tmp 14) (.con (.int .i64 0))), (some 16, .mv (.tmp 15))]⟩, ⟨some (16, true), [(some 17, .mv (.tmp 4)),
    (some 18, .bin .eql (.tmp 17) (.con (.int .i64 0)))]⟩, ⟨none, [(some 19, .pick (.tmp 16) (.tmp 18) (.con (.bool false))), (some 20, .mv (.tmp 19))]⟩, ⟨some (20, true), [(some 21, .mv (.tmp 1)), (some 22, .bin .eql (.tmp 21)
    (.con (.str [48, 13, 2, 1, 2, 96, 8, 2, 1, 3, 4, 0, 128, 1, 115])))]⟩, ⟨none, [(some 23, .pick (.tmp 20) (.tmp 22) (.con (.bool false))), (some 24, .mv (.tmp 23))]⟩, ⟨some (24, true), [(some 25, .faddr 1 (.tmp 3)), (some 26,
    .load false 1 (.tmp 25)), (some 27, .bin .eql (.tmp 26) (.con (.int .i64 10)))]⟩, ⟨none, [(some 28, .pick (.tmp 24) (.tmp 27) (.con (.bool false))), (some 29, .mv (.tmp 28))]⟩, ⟨some (29, true), [(some 30, .faddr 2 (.tmp 3)),
    (some 31, .load false 1 (.tmp 30)), (some 32, .bin .eql (.tmp 31) (.con (.str [100, 99, 61, 122])))]⟩, ⟨none, [(some 33, .pick (.tmp 29) (.tmp 32) (.con (.bool false))), (some 0, .mv (.tmp 33))]⟩]) .ret)))
theorem lowl9_alive : lowerFO [] prog 11 = some ⟨34, [LRes.tmp 0], Bl9_alive⟩ := by kernel_rfl

@[irreducible] def Bl9_MessageReplies : LCode :=
  .seq (.region [⟨none, [(some 2, .mv (.con (.bool false)))]⟩]) (.seq (.region [⟨none, [(some 5, .mv (.tmp 0)), (some 6, .call 26 [.tmp 5]), (some 3, .mv (.tmp 6))]⟩]) (.seq (.seq (.region [⟨none, [(some 7, .mv (.tmp 3)), (some 8,
    .bin .lss (.tmp 7) (.con (.int .i64 0)))]⟩]) (.cond (.tmp 8) (.seq (.region [⟨none, [(some 9, .call 11 []), (some 10, .mv (.tmp 9))]⟩, ⟨some (10, true), [(some 11, .mv (.tmp 0)), (some 12, .call 27 [.tmp 11]), (some 13, .un .not
    (.tmp 12)), (some 14, .mv (.tmp 13))]⟩, ⟨some (14, false), [(some 15, .mv (.tmp 0)), (some 16, .bin .eql (.tmp 15) (.con (.int .i64 2)))]⟩, ⟨some (10, true), [(some 17, .pick (.tmp 14) (.con (.bool true)) (.tmp 16)), (some 18,
    .mv (.tmp 17))]⟩, ⟨some (18, false), [(some 19, .mv (.tmp 0)), (some 20, .bin .eql (.tmp 19) (.con (.int .i64 16)))]⟩, ⟨some (10, true), [(some 21, .pick (.tmp 18) (.con (.bool true)) (.tmp 20))]⟩, ⟨none, [(some 22, .pick (.tmp
    10) (.tmp 21) (.con (.bool false))), (some 2, .mv (.tmp 22))]⟩]) .ret) .skip)) (.seq (.region [⟨none, [(some 23, .mv (.tmp 3)), (some 24, .call 28 [.con (.int .i64 1), .tmp 23, .con (.int .i64 0), .con (.str []), .con (.str
    [])]), (some 4, .alloc 28 [.int .i64 0, .int .i64 0, .str [], .int .i64 0, .bool false, .str [], .int .i64 0, .int .i64 0, .int .i64 0, .int .i64 0, .bool false, .lit (.slice none 0 0), .lit (.slice none 0 0), .lit (.slice none
    0 0), .lit (.slice none 0 0), .str [], .str [], .bool false, .bool false, .str [], .str [], .str [], .bool false, .int .i64 0, .int .i64 0, .str [], .str [], .lit (.slice none 0 0)]), (none, .store 28 (.tmp 4) (.tmp 24))]⟩])
    (.seq (.region [⟨none, [(some 25, .call 11 []), (some 26, .mv (.tmp 25))]⟩, ⟨some (26, true), [(some 27, .mv (.tmp 0)), (some 28, .call 27 [.tmp 27])]⟩, ⟨none, [(some 29, .pick (.tmp 26) (.tmp 28) (.con (.bool false))), (some
    30, .mv (.tmp 29))]⟩, ⟨some (30, true), [(some 31, .mv (.tmp 3)), (some 32, .call 27 [.tmp 31]), (some 33, .un .not (.tmp 32))]⟩, ⟨none, [(some 34, .pick (.tmp 30) (.tmp 33) (.con (.bool false))), (some 35, .mv (.tmp 34))]⟩,
    ⟨some (35, true), [(some 36, .mv (.tmp 3)), (some 37, .call 26 [.tmp 36]), (some 38, .bin .lss (.tmp 37) (.con (.int .i64 0)))]⟩, ⟨none, [(some 39, .pick (.tmp 35) (.tmp 38) (.con (.bool false))), (some 40, .mv (.tmp 39))]⟩,
    ⟨some (40, true), [(some 41, .load true 28 (.tmp 4)), (some 42, .call 15 [.tmp 41])]⟩, ⟨none, [(some 43, .pick (.tmp 40) (.tmp 42) (.con (.bool false))), (some 2, .mv (.tmp 43))]⟩]) .ret))))
theorem lowl9_MessageReplies : lowerFO [] prog 8 = some ⟨44, [LRes.tmp 2], Bl9_MessageReplies⟩ := by kernel_rfl

@[irreducible] def Bl9_MessageMakes : LCode :=
  .seq (.region [⟨none, [(some 10, .mv (.con (.bool false)))]⟩]) (.seq (.region [⟨none, [(some 13, .mv (.tmp 0)), (some 14, .mv (.tmp 1)), (some 15, .mv (.tmp 2)), (some 16, .mv (.tmp 3)), (some 17, .mv (.tmp 4)), (some 18, .call 28
    [.tmp 13, .tmp 14, .tmp 15, .tmp 16, .tmp 17]), (some 11, .alloc 28 [.int .i64 0, .int .i64 0, .str [], .int .i64 0, .bool false, .str [], .int .i64 0, .int .i64 0, .int .i64 0, .int .i64 0, .bool false, .lit (.slice none 0 0),
    .lit (.slice none 0 0), .lit (.slice none 0 0), .lit (.slice none 0 0), .str [], .str [], .bool false, .bool false, .str [], .str [], .str [], .bool false, .int .i64 0, .int .i64 0, .str [], .str [], .lit (.slice none 0 0)]),
    (none, .store 28 (.tmp 11) (.tmp 18))]⟩]) (.seq (.region [⟨none, [(some 19, .mv (.tmp 2)), (some 20, .mv (.tmp 4)), (some 21, .call 29 [.tmp 19, .tmp 20]), (some 12, .alloc 28 [.int .i64 0, .int .i64 0, .str [], .int .i64 0,
    .bool false, .str [], .int .i64 0, .int .i64 0, .int .i64 0, .int .i64 0, .bool false, .lit (.slice none 0 0), .lit (.slice none 0 0), .lit (.slice none 0 0), .lit (.slice none 0 0), .str [], .str [], .bool false, .bool false,
    .str [], .str [], .str [], .bool false, .int .i64 0, .int .i64 0, .str [], .str [], .lit (.slice none 0 0)]), (none, .store 28 (.tmp 12) (.tmp 21))]⟩]) (.seq (.region [⟨none, [(some 22, .call 11 []), (some 23, .mv (.tmp 22))]⟩,
    ⟨some (23, true), [(some 24, .mv (.tmp 1)), (some 25, .call 27 [.tmp 24]), (some 26, .mv (.tmp 1)), (some 27, .call 30 [.tmp 26]), (some 28, .eqb false (.tmp 25) (.tmp 27))]⟩, ⟨none, [(some 29, .pick (.tmp 23) (.tmp 28) (.con
    (.bool false))), (some 30, .mv (.tmp 29))]⟩, ⟨some (30, true), [(some 31, .mv (.tmp 1)), (some 32, .call 26 [.tmp 31]), (some 33, .mv (.tmp 1)), (some 34, .call 31 [.tmp 33]), (some 35, .bin .eql (.tmp 32) (.tmp 34))]⟩, ⟨none,
    [(some 36, .pick (.tmp 30) (.tmp 35) (.con (.bool false))), (some 37, .mv (.tmp 36))]⟩, ⟨some (37, true), [(some 38, .load true 28 (.tmp 11)), (some 39, .mv (.tmp 0)), (some 40, .mv (.tmp 1)), (some 41, .mv (.tmp 2)), (some 42,
    .mv (.tmp 3)), (some 43, .mv (.tmp 4)), (some 44, .build [.int .i64 0, .int .i64 0, .str [], .int .i64 0, .bool false, .str [], .int .i64 0, .int .i64 0, .int .i64 0, .int .i64 0, .bool false, .lit (.slice none 0 0), .lit
    (.slice none 0 0), .lit (.slice none 0 0), .lit (.slice none 0 0), .str [], .str [], .bool false, .bool false, .str [], .str [], .str [], .bool false, .int .i64 0, .int .i64 0, .str [], .str [], .lit (.slice none 0 0)] [(0, 1,
    .tmp 39), (1, 1, .tmp 40), (24, 1, .tmp 41), (25, 1, .tmp 42), (26, 1, .tmp 43)]), (some 45, .call 20 [.tmp 38, .tmp 44])]⟩, ⟨none, [(some 46, .pick (.tmp 37) (.tmp 45) (.con (.bool false))), (some 47, .mv (.tmp 46))]⟩, ⟨some
    (47, true), [(some 48, .load true 28 (.tmp 12)), (some 49, .mv (.tmp 2)), (some 50, .mv (.tmp 4)), (some 51, .build [.int .i64 0, .int .i64 0, .str [], .int .i64 0, .bool false, .str [], .int .i64 0, .int .i64 0, .int .i64 0,
    .int .i64 0, .bool false, .lit (.slice none 0 0), .lit (.slice none 0 0), .lit (.slice none 0 0), .lit (.slice none 0 0), .str [], .str [], .bool false, .bool false, .str [], .str [], .str [], .bool false, .int .i64 0, .int .i64
    0, .str [], .str [], .lit (.slice none 0 0)] [(1, 1, .con (.int .i64 24)), (24, 1, .tmp 49), (26, 1, .tmp 50), (21, 1, .con (.str [49, 46, 51, 46, 54, 46, 49, 46, 52, 46, 49, 46, 49, 52, 54, 54, 46, 50, 48, 48, 51, 54]))]),
    (some 52, .call 20 [.tmp 48, .tmp 51])]⟩, ⟨none, [(some 53, .pick (.tmp 47) (.tmp 52) (.con (.bool false))), (some 10, .mv (.tmp 53))]⟩]) .ret)))
theorem lowl9_MessageMakes : lowerFO [] prog 9 = some ⟨54, [LRes.tmp 10], Bl9_MessageMakes⟩ := by kernel_rfl

@[irreducible] def Bl9_MessageFramed : LCode :=
  .seq (.region [⟨none, [(some 1, .box 28 (.tmp 0)), (some 2, .mv (.con (.bool false)))]⟩]) (.seq (.seq (.region [⟨none, [(some 11, .load true 28 (.tmp 1)), (some 12, .call 10 [.tmp 11]), (some 13, .un .not (.tmp 12))]⟩]) (.cond
    (.tmp 13) (.seq (.region [⟨none, [(some 14, .call 11 []), (some 2, .mv (.tmp 14))]⟩]) .ret) .skip)) (.seq (.region [⟨none, [(some 16, .load true 28 (.tmp 1)), (some 17, .call 13 [.tmp 16]), (some 15, .mv (.tmp 17)), (some 18,
    .extr 0 (.tmp 15)), (some 19, .extr 1 (.tmp 15)), (some 3, .mv (.tmp 18)), (some 4, .mv (.tmp 19))]⟩]) (.seq (.seq (.region [⟨none, [(some 20, .mv (.tmp 4)), (some 21, .bin .neq (.tmp 20) (.con (.int .i64 0)))]⟩]) (.cond (.tmp
    21) (.seq (.region [⟨none, [(some 22, .call 11 []), (some 2, .mv (.tmp 22))]⟩]) .ret) .skip)) (.seq (.region [⟨none, [(some 24, .mv (.tmp 3)), (some 25, .call 23 [.tmp 24]), (some 23, .mv (.tmp 25)), (some 26, .extr 0 (.tmp
    23)), (some 27, .extr 1 (.tmp 23)), (some 5, .mv (.tmp 26)), (some 6, .mv (.tmp 27))]⟩]) (.seq (.region [⟨none, [(some 29, .mv (.tmp 3)), (some 30, .call 24 [.tmp 29]), (some 28, .mv (.tmp 30)), (some 31, .extr 0 (.tmp 28)),
    (some 32, .extr 1 (.tmp 28)), (some 7, .alloc 68 [.int .i64 0, .int .i64 0, .bool false, .str [], .lit (.slice none 0 0)]), (none, .store 5 (.tmp 7) (.tmp 31)), (some 8, .mv (.tmp 32))]⟩]) (.seq (.seq (.region [⟨none, [(some 33,
    .mv (.tmp 6)), (some 34, .bin .neq (.tmp 33) (.con (.int .i64 0))), (some 35, .mv (.tmp 34))]⟩, ⟨some (35, false), [(some 36, .mv (.tmp 8)), (some 37, .bin .neq (.tmp 36) (.con (.int .i64 0)))]⟩, ⟨none, [(some 38, .pick (.tmp
    35) (.con (.bool true)) (.tmp 37)), (some 39, .mv (.tmp 38))]⟩, ⟨some (39, false), [(some 40, .mv (.tmp 5)), (some 41, .mv (.tmp 3)), (some 42, .lenS (.tmp 41)), (some 43, .bin .neq (.tmp 40) (.tmp 42))]⟩, ⟨none, [(some 44,
    .pick (.tmp 39) (.con (.bool true)) (.tmp 43)), (some 45, .mv (.tmp 44))]⟩, ⟨some (45, false), [(some 46, .faddr 4 (.tmp 7)), (some 47, .load false 1 (.tmp 46)), (some 48, .len (.tmp 47)), (some 49, .bin .lss (.tmp 48) (.con
    (.int .i64 2)))]⟩, ⟨none, [(some 50, .pick (.tmp 45) (.con (.bool true)) (.tmp 49)), (some 51, .mv (.tmp 50))]⟩, ⟨some (51, false), [(some 52, .faddr 4 (.tmp 7)), (some 53, .load false 1 (.tmp 52)), (some 54, .len (.tmp 53)),
    (some 55, .bin .gtr (.tmp 54) (.con (.int .i64 3)))]⟩, ⟨none, [(some 56, .pick (.tmp 51) (.con (.bool true)) (.tmp 55)), (some 57, .mv (.tmp 56))]⟩, ⟨some (57, false), [(some 58, .faddr 4 (.tmp 7)), (some 59, .load false 1 (.tmp
    58)), (some 60, .len (.tmp 59)), (some 61, .bin .eql (.tmp 60) (.con (.int .i64 3))), (some 62, .faddr 27 (.tmp 1)), (some 63, .load false 1 (.tmp 62)), (some 64, .len (.tmp 63)), (some 65, .bin .gtr (.tmp 64) (.con (.int .i64
    0))), (some 66, .eqb true (.tmp 61) (.tmp 65))]⟩, ⟨none, [(some 67, .pick (.tmp 57) (.con (.bool true)) (.tmp 66))]⟩]) (.cond (.tmp 67) (.seq (.region [⟨none, [(some 2, .mv (.con (.bool false)))]⟩]) .ret) .skip)) (.seq (.region
    [⟨none, [(some 69, .faddr 4 (.tmp 7)), (some 70, .load false 1 (.tmp 69)), (some 71, .iaddr 5 (.tmp 70) (.con (.int .i64 0))), (some 72, .load true 5 (.tmp 71)), (some 73, .call 25 [.tmp 72, .con (.int .i64 0), .con (.int .i64
    2)]), (some 68, .mv (.tmp 73)), (some 74, .extr 0 (.tmp 68)), (some 75, .extr 1 (.tmp 68)), (some 9, .mv (.tmp 74)), (some 10, .mv (.tmp 75))]⟩]) (.seq (.quiet [⟨some 76, none, .call 11 [], false, 0, 0⟩, ⟨some 77, none, .mv
    (.tmp 76), false, 0, 0⟩, ⟨some 78, some (77, true), .mv (.tmp 10), false, 0, 0⟩, ⟨some 79, some (77, true), .bin .eql (.tmp 78) (.con (.int .i64 0)), false, 0, 0⟩, ⟨some 80, none, .pick (.tmp 77) (.tmp 79) (.con (.bool false)),
    false, 0, 0⟩, ⟨some 81, none, .mv (.tmp 80), false, 0, 0⟩, ⟨some 82, some (81, true), .mv (.tmp 9), false, 0, 0⟩, ⟨some 83, some (81, true), .faddr 0 (.tmp 1), false, 0, 0⟩, ⟨some 84, some (81, true), .load false 1 (.tmp 83),
    false, 0, 0⟩, ⟨some 85, some (81, true), .bin .eql (.tmp 82) (.tmp 84), false, 0, 0⟩, ⟨some 86, none, .pick (.tmp 81) (.tmp 85) (.con (.bool false)), false, 0, 0⟩, ⟨some 87, none, .mv (.tmp 86), false, 0, 0⟩, ⟨some 88, some (87,
    true), .faddr 4 (.tmp 7), false, 0, 0⟩, ⟨some 89, some (87, true), .load false 1 (.tmp 88), false, 0, 0⟩, ⟨some 90, some (87, true), .iaddr 5 (.tmp 89) (.con (.int .i64 1)), false, 0, 0⟩, ⟨some 91, some (87, true), .faddr 0
    (.tmp 90), false, 0, 0⟩, ⟨some 92, some (87, true), .load false 1 (.tmp 91), false, 0, 0⟩, ⟨some 93, some (87, true), .bin .eql (.tmp 92) (.con (.int .i64 1)), false, 0, 0⟩, ⟨some 94, none, .pick (.tmp 87) (.tmp 93) (.con (.bool
    false)), false, 0, 0⟩, ⟨some 95, none, .mv (.tmp 94), false, 0, 0⟩, ⟨some 96, some (95, true), .faddr 4 (.tmp 7), false, 0, 0⟩, ⟨some 97, some (95, true), .load false 1 (.tmp 96), false, 0, 0⟩, ⟨some 98, some (95, true), .iaddr
    5 (.tmp 97) (.con (.int .i64 1)), false, 0, 0⟩, ⟨some 99, some (95, true), .faddr 1 (.tmp 98), false, 0, 0⟩, ⟨some 100, some (95, true), .load false 1 (.tmp 99), false, 0, 0⟩, ⟨some 101, some (95, true), .faddr 1 (.tmp 1),
    false, 0, 0⟩, ⟨some 102, some (95, true), .load false 1 (.tmp 101), false, 0, 0⟩, ⟨some 103, some (95, true), .bin .eql (.tmp 100) (.tmp 102), false, 0, 0⟩, ⟨some 104, none, .pick (.tmp 95) (.tmp 103) (.con (.bool false)),
    false, 0, 0⟩, ⟨some 2, none, .mv (.tmp 104), false, 0, 0⟩]) .ret))))))))
theorem lowl9_MessageFramed : lowerFO [] prog 7 = some ⟨105, [LRes.tmp 2], Bl9_MessageFramed⟩ := by kernel_rfl

@[irreducible] def Bl9_light : LCode :=
  .seq (.region [⟨none, [(some 1, .box 28 (.tmp 0)), (some 2, .mv (.con (.bool false)))]⟩]) (.seq (.region [⟨none, [(some 3, .faddr 11 (.tmp 1)), (some 4, .load false 1 (.tmp 3)), (some 5, .len (.tmp 4)), (some 6, .bin .leq (.tmp 5)
    (.con (.int .i64 150))), (some 7, .mv (.tmp 6))]⟩, ⟨some (7, true), [(some 8, .faddr 14 (.tmp 1)), (some 9, .load false 1 (.tmp 8)), (some 10, .len (.tmp 9)), (some 11, .bin .leq (.tmp 10) (.con (.int .i64 200)))]⟩, ⟨none,
    [(some 12, .pick (.tmp 7) (.tmp 11) (.con (.bool false))), (some 13, .mv (.tmp 12))]⟩, ⟨some (13, true), [(some 14, .faddr 13 (.tmp 1)), (some 15, .load false 1 (.tmp 14)), (some 16, .len (.tmp 15)), (some 17, .bin .leq (.tmp
    16) (.con (.int .i64 200)))]⟩, ⟨none, [(some 18, .pick (.tmp 13) (.tmp 17) (.con (.bool false))), (some 19, .mv (.tmp 18))]⟩, ⟨some (19, true), [(some 20, .faddr 27 (.tmp 1)), (some 21, .load false 1 (.tmp 20)), (some 22, .len
    (.tmp 21)), (some 23, .bin .leq (.tmp 22) (.con (.int .i64 200)))]⟩, ⟨none, [(some 24, .pick (.tmp 19) (.tmp 23) (.con (.bool false))), (some 25, .mv (.tmp 24))]⟩, ⟨some (25, true), [(some 26, .faddr 12 (.tmp 1)), (some 27,
    .load false 1 (.tmp 26)), (some 28, .len (.tmp 27)), (some 29, .bin .leq (.tmp 28) (.con (.int .i64 500)))]⟩, ⟨none, [(some 30, .pick (.tmp 25) (.tmp 29) (.con (.bool false))), (some 2, .mv (.tmp 30))]⟩]) .ret)
theorem lowl9_light : lowerFO [] prog 10 = some ⟨31, [LRes.tmp 2], Bl9_light⟩ := by kernel_rfl

@[irreducible] def Br9_IsRequest : LCode :=
  .seq (.region [⟨none, [(some 2, .mv (.con (.bool false)))]⟩]) (.seq (.region [⟨none, [(some 3, .mv (.tmp 0)), (some 4, .call 31 [.tmp 3]), (some 5, .bin .geq (.tmp 4) (.con (.int .i64 0))), (some 6, .mv (.tmp 5))]⟩, ⟨some (6,
    false), [(some 7, .mv (.tmp 0)), (some 8, .bin .eql (.tmp 7) (.con (.int .i64 2)))]⟩, ⟨none, [(some 9, .pick (.tmp 6) (.con (.bool true)) (.tmp 8)), (some 10, .mv (.tmp 9))]⟩, ⟨some (10, false), [(some 11, .mv (.tmp 0)), (some
    12, .bin .eql (.tmp 11) (.con (.int .i64 16)))]⟩, ⟨none, [(some 13, .pick (.tmp 10) (.con (.bool true)) (.tmp 12)), (some 2, .mv (.tmp 13))]⟩]) .ret)
theorem lowr9_IsRequest : lowerFO [] prog 30 = some ⟨14, [LRes.tmp 2], Br9_IsRequest⟩ := by kernel_rfl

@[irreducible] def Br9_Reply : LCode :=
  .seq (.region [⟨none, [(some 2, .mv (.con (.int .i64 0)))]⟩]) (.seq (.seq (.region [⟨none, [(some 3, .mv (.tmp 0))]⟩]) (.block 0 (.seq (.seq (.region [⟨none, [(some 5, .bin .eql (.tmp 3) (.con (.int .i64 0))), (some 4, .mv (.tmp
    5))]⟩]) (.cond (.tmp 4) .skip (.seq (.region [⟨none, [(some 6, .bin .eql (.tmp 3) (.con (.int .i64 6))), (some 4, .mv (.tmp 6))]⟩]) (.cond (.tmp 4) .skip (.seq (.region [⟨none, [(some 7, .bin .eql (.tmp 3) (.con (.int .i64 8))),
    (some 4, .mv (.tmp 7))]⟩]) (.cond (.tmp 4) .skip (.seq (.region [⟨none, [(some 8, .bin .eql (.tmp 3) (.con (.int .i64 10))), (some 4, .mv (.tmp 8))]⟩]) (.cond (.tmp 4) .skip (.seq (.region [⟨none, [(some 9, .bin .eql (.tmp 3)
    (.con (.int .i64 12))), (some 4, .mv (.tmp 9))]⟩]) (.cond (.tmp 4) .skip (.seq (.region [⟨none, [(some 10, .bin .eql (.tmp 3) (.con (.int .i64 14))), (some 4, .mv (.tmp 10))]⟩]) (.cond (.tmp 4) .skip (.region [⟨none, [(some 11,
    .bin .eql (.tmp 3) (.con (.int .i64 23))), (some 4, .mv (.tmp 11))]⟩]))))))))))))) (.cond (.tmp 4) (.seq (.region [⟨none, [(some 12, .mv (.tmp 0)), (some 13, .bin .add (.tmp 12) (.con (.int .i64 1))), (some 2, .mv (.tmp 13))]⟩])
    .ret) (.seq (.region [⟨none, [(some 15, .bin .eql (.tmp 3) (.con (.int .i64 3))), (some 14, .mv (.tmp 15))]⟩]) (.cond (.tmp 14) (.seq (.region [⟨none, [(some 2, .mv (.con (.int .i64 5)))]⟩]) .ret) .skip)))))) (.seq (.region
    [⟨none, [(some 2, .mv (.con (.int .i64 (-1))))]⟩]) .ret))
theorem lowr9_Reply : lowerFO [] prog 31 = some ⟨16, [LRes.tmp 2], Br9_Reply⟩ := by kernel_rfl

@[irreducible] def Br9_Same : LCode :=
  .seq (.region [⟨none, [(some 2, .box 28 (.tmp 0)), (some 3, .box 28 (.tmp 1)), (some 4, .mv (.con (.bool false)))]⟩]) (.seq (.region [⟨none, [(some 5, .faddr 0 (.tmp 2)), (some 6, .load false 1 (.tmp 5)), (some 7, .faddr 0 (.tmp
    3)), (some 8, .load false 1 (.tmp 7)), (some 9, .bin .eql (.tmp 6) (.tmp 8)), (some 10, .mv (.tmp 9))]⟩, ⟨some (10, true), [(some 11, .faddr 1 (.tmp 2)), (some 12, .load false 1 (.tmp 11)), (some 13, .faddr 1 (.tmp 3)), (some
    14, .load false 1 (.tmp 13)), (some 15, .bin .eql (.tmp 12) (.tmp 14))]⟩, ⟨none, [(some 16, .pick (.tmp 10) (.tmp 15) (.con (.bool false))), (some 17, .mv (.tmp 16))]⟩, ⟨some (17, true), [(some 18, .faddr 2 (.tmp 2)), (some 19,
    .load false 1 (.tmp 18)), (some 20, .faddr 2 (.tmp 3)), (some 21, .load false 1 (.tmp 20)), (some 22, .bin .eql (.tmp 19) (.tmp 21))]⟩, ⟨none, [(some 23, .pick (.tmp 17) (.tmp 22) (.con (.bool false))), (some 24, .mv (.tmp
    23))]⟩, ⟨some (24, true), [(some 25, .faddr 3 (.tmp 2)), (some 26, .load false 1 (.tmp 25)), (some 27, .faddr 3 (.tmp 3)), (some 28, .load false 1 (.tmp 27)), (some 29, .bin .eql (.tmp 26) (.tmp 28))]⟩, ⟨none, [(some 30, .pick
    (.tmp 24) (.tmp 29) (.con (.bool false))), (some 31, .mv (.tmp 30))]⟩, ⟨some (31, true), [(some 32, .faddr 4 (.tmp 2)), (some 33, .load false 1 (.tmp 32)), (some 34, .faddr 4 (.tmp 3)), (some 35, .load false 1 (.tmp 34)), (some
    36, .eqb false (.tmp 33) (.tmp 35))]⟩, ⟨none, [(some 37, .pick (.tmp 31) (.tmp 36) (.con (.bool false))), (some 38, .mv (.tmp 37))]⟩, ⟨some (38, true), [(some 39, .faddr 5 (.tmp 2)), (some 40, .load false 1 (.tmp 39)), (some 41,
    .faddr 5 (.tmp 3)), (some 42, .load false 1 (.tmp 41)), (some 43, .bin .eql (.tmp 40) (.tmp 42))]⟩, ⟨none, [(some 44, .pick (.tmp 38) (.tmp 43) (.con (.bool false))), (some 45, .mv (.tmp 44))]⟩, ⟨some (45, true), [(some 46,
    .faddr 6 (.tmp 2)), (some 47, .load false 1 (.tmp 46)), (some 48, .faddr 6 (.tmp 3)), (some 49, .load false 1 (.tmp 48)), (some 50, .bin .eql (.tmp 47) (.tmp 49))]⟩, ⟨none, [(some 51, .pick (.tmp 45) (.tmp 50) (.con (.bool
    false))), (some 52, .mv (.tmp 51))]⟩, ⟨some (52, true), [(some 53, .faddr 7 (.tmp 2)), (some 54, .load false 1 (.tmp 53)), (some 55, .faddr 7 (.tmp 3)), (some 56, .load false 1 (.tmp 55)), (some 57, .bin .eql (.tmp 54) (.tmp
    56))]⟩, ⟨none, [(some 58, .pick (.tmp 52) (.tmp 57) (.con (.bool false))), (some 59, .mv (.tmp 58))]⟩, ⟨some (59, true), [(some 60, .faddr 8 (.tmp 2)), (some 61, .load false 1 (.tmp 60)), (some 62, .faddr 8 (.tmp 3)), (some 63,
    .load false 1 (.tmp 62)), (some 64, .bin .eql (.tmp 61) (.tmp 63))]⟩, ⟨none, [(some 65, .pick (.tmp 59) (.tmp 64) (.con (.bool false))), (some 66, .mv (.tmp 65))]⟩, ⟨some (66, true), [(some 67, .faddr 9 (.tmp 2)), (some 68,
    .load false 1 (.tmp 67)), (some 69, .faddr 9 (.tmp 3)), (some 70, .load false 1 (.tmp 69)), (some 71, .bin .eql (.tmp 68) (.tmp 70))]⟩, ⟨none, [(some 72, .pick (.tmp 66) (.tmp 71) (.con (.bool false))), (some 73, .mv (.tmp
    72))]⟩, ⟨some (73, true), [(some 74, .faddr 10 (.tmp 2)), (some 75, .load false 1 (.tmp 74)), (some 76, .faddr 10 (.tmp 3)), (some 77, .load false 1 (.tmp 76)), (some 78, .eqb false (.tmp 75) (.tmp 77))]⟩, ⟨none, [(some 79,
    .pick (.tmp 73) (.tmp 78) (.con (.bool false))), (some 80, .mv (.tmp 79))]⟩, ⟨some (80, true), [(some 81, .faddr 11 (.tmp 2)), (some 82, .load false 1 (.tmp 81)), (some 83, .faddr 11 (.tmp 3)), (some 84, .load false 1 (.tmp
    83)), (some 85, .call 61 [.tmp 82, .tmp 84])]⟩, ⟨none, [(some 86, .pick (.tmp 80) (.tmp 85) (.con (.bool false))), (some 87, .mv (.tmp 86))]⟩, ⟨some (87, true), [(some 88, .faddr 12 (.tmp 2)), (some 89, .load false 1 (.tmp 88)),
    (some 90, .faddr 12 (.tmp 3)), (some 91, .load false 1 (.tmp 90)), (some 92, .call 62 [.tmp 89, .tmp 91])]⟩, ⟨none, [(some 93, .pick (.tmp 87) (.tmp 92) (.con (.bool false))), (some 94, .mv (.tmp 93))]⟩, ⟨some (94, true), [(some
    95, .faddr 13 (.tmp 2)), (some 96, .load false 1 (.tmp 95)), (some 97, .faddr 13 (.tmp 3)), (some 98, .load false 1 (.tmp 97)), (some 99, .call 63 [.tmp 96, .tmp 98])]⟩, ⟨none, [(some 100, .pick (.tmp 94) (.tmp 99) (.con (.bool
    false))), (some 101, .mv (.tmp 100))]⟩, ⟨some (101, true), [(some 102, .faddr 14 (.tmp 2)), (some 103, .load false 1 (.tmp 102)), (some 104, .faddr 14 (.tmp 3)), (some 105, .load false 1 (.tmp 104)), (some 106, .call 64 [.tmp
    103, .tmp 105])]⟩, ⟨none, [(some 107, .pick (.tmp 101) (.tmp 106) (.con (.bool false))), (some 108, .mv (.tmp 107))]⟩, ⟨some (108, true), [(some 109, .faddr 15 (.tmp 2)), (some 110, .load false 1 (.tmp 109)), (some 111, .faddr
    15 (.tmp 3)), (some 112, .load false 1 (.tmp 111)), (some 113, .bin .eql (.tmp 110) (.tmp 112))]⟩, ⟨none, [(some 114, .pick (.tmp 108) (.tmp 113) (.con (.bool false))), (some 115, .mv (.tmp 114))]⟩, ⟨some (115, true), [(some
    116, .faddr 16 (.tmp 2)), (some 117, .load false 1 (.tmp 116)), (some 118, .faddr 16 (.tmp 3)), (some 119, .load false 1 (.tmp 118)), (some 120, .bin .eql (.tmp 117) (.tmp 119))]⟩, ⟨none, [(some 121, .pick (.tmp 115) (.tmp 120)
    (.con (.bool false))), (some 122, .mv (.tmp 121))]⟩, ⟨some (122, true), [(some 123, .faddr 17 (.tmp 2)), (some 124, .load false 1 (.tmp 123)), (some 125, .faddr 17 (.tmp 3)), (some 126, .load false 1 (.tmp 125)), (some 127, .eqb
    false (.tmp 124) (.tmp 126))]⟩, ⟨none, [(some 128, .pick (.tmp 122) (.tmp 127) (.con (.bool false))), (some 129, .mv (.tmp 128))]⟩, ⟨some (129, true), [(some 130, .faddr 18 (.tmp 2)), (some 131, .load false 1 (.tmp 130)), (some
    132, .faddr 18 (.tmp 3)), (some 133, .load false 1 (.tmp 132)), (some 134, .eqb false (.tmp 131) (.tmp 133))]⟩, ⟨none, [(some 135, .pick (.tmp 129) (.tmp 134) (.con (.bool false))), (some 136, .mv (.tmp 135))]⟩, ⟨some (136,
    true), [(some 137, .faddr 19 (.tmp 2)), (some 138, .load false 1 (.tmp 137)), (some 139, .faddr 19 (.tmp 3)), (some 140, .load false 1 (.tmp 139)), (some 141, .bin .eql (.tmp 138) (.tmp 140))]⟩, ⟨none, [(some 142, .pick (.tmp
    136) (.tmp 141) (.con (.bool false))), (some 143, .mv (.tmp 142))]⟩, ⟨some (143, true), [(some 144, .faddr 20 (.tmp 2)), (some 145, .load false 1 (.tmp 144)), (some 146, .faddr 20 (.tmp 3)), (some 147, .load false 1 (.tmp 146)),
    (some 148, .bin .eql (.tmp 145) (.tmp 147))]⟩, ⟨none, [(some 149, .pick (.tmp 143) (.tmp 148) (.con (.bool false))), (some 150, .mv (.tmp 149))]⟩, ⟨some (150, true), [(some 151, .faddr 21 (.tmp 2)), (some 152, .load false 1
    (.tmp 151)), (some 153, .faddr 21 (.tmp 3)), (some 154, .load false 1 (.tmp 153)), (some 155, .bin .eql (.tmp 152) (.tmp 154))]⟩, ⟨none, [(some 156, .pick (.tmp 150) (.tmp 155) (.con (.bool false))), (some 157, .mv (.tmp
    156))]⟩, ⟨some (157, true), [(some 158, .faddr 22 (.tmp 2)), (some 159, .load false 1 (.tmp 158)), (some 160, .faddr 22 (.tmp 3)), (some 161, .load false 1 (.tmp 160)), (some 162, .eqb false (.tmp 159) (.tmp 161))]⟩, ⟨none,
    [(some 163, .pick (.tmp 157) (.tmp 162) (.con (.bool false))), (some 164, .mv (.tmp 163))]⟩, ⟨some (164, true), [(some 165, .faddr 23 (.tmp 2)), (some 166, .load false 1 (.tmp 165)), (some 167, .faddr 23 (.tmp 3)), (some 168,
    .load false 1 (.tmp 167)), (some 169, .bin .eql (.tmp 166) (.tmp 168))]⟩, ⟨none, [(some 170, .pick (.tmp 164) (.tmp 169) (.con (.bool false))), (some 171, .mv (.tmp 170))]⟩, ⟨some (171, true), [(some 172, .faddr 24 (.tmp 2)),
    (some 173, .load false 1 (.tmp 172)), (some 174, .faddr 24 (.tmp 3)), (some 175, .load false 1 (.tmp 174)), (some 176, .bin .eql (.tmp 173) (.tmp 175))]⟩, ⟨none, [(some 177, .pick (.tmp 171) (.tmp 176) (.con (.bool false))),
    (some 178, .mv (.tmp 177))]⟩, ⟨some (178, true), [(some 179, .faddr 25 (.tmp 2)), (some 180, .load false 1 (.tmp 179)), (some 181, .faddr 25 (.tmp 3)), (some 182, .load false 1 (.tmp 181)), (some 183, .bin .eql (.tmp 180) (.tmp
    182))]⟩, ⟨none, [(some 184, .pick (.tmp 178) (.tmp 183) (.con (.bool false))), (some 185, .mv (.tmp 184))]⟩, ⟨some (185, true), [(some 186, .faddr 26 (.tmp 2)), (some 187, .load false 1 (.tmp 186)), (some 188, .faddr 26 (.tmp
    3)), (some 189, .load false 1 (.tmp 188)), (some 190, .bin .eql (.tmp 187) (.tmp 189))]⟩, ⟨none, [(some 191, .pick (.tmp 185) (.tmp 190) (.con (.bool false))), (some 192, .mv (.tmp 191))]⟩, ⟨some (192, true), [(some 193, .faddr
    27 (.tmp 2)), (some 194, .load false 1 (.tmp 193)), (some 195, .faddr 27 (.tmp 3)), (some 196, .load false 1 (.tmp 195)), (some 197, .call 65 [.tmp 194, .tmp 196])]⟩, ⟨none, [(some 198, .pick (.tmp 192) (.tmp 197) (.con (.bool
    false))), (some 4, .mv (.tmp 198))]⟩]) .ret)
theorem lowr9_Same : lowerFO [] prog 20 = some ⟨199, [LRes.tmp 4], Br9_Same⟩ := by kernel_rfl

@[irreducible] def Br9_SameFilter : LCode :=
  .seq (.region [⟨none, [(some 4, .mv (.con (.bool false)))]⟩]) (.seq (.seq (.region [⟨none, [(some 8, .mv (.tmp 0)), (some 9, .len (.tmp 8)), (some 10, .mv (.tmp 1)), (some 11, .len (.tmp 10)), (some 12, .bin .neq (.tmp 9) (.tmp
    11))]⟩]) (.cond (.tmp 12) (.seq (.region [⟨none, [(some 4, .mv (.con (.bool false)))]⟩]) .ret) .skip)) (.seq (.seq (.region [⟨none, [(some 5, .mv (.con (.int .i64 0)))]⟩]) (.block 0 (.loop (.seq (.seq (.region [⟨none, [(some 13,
    .mv (.tmp 5)), (some 14, .mv (.tmp 0)), (some 15, .len (.tmp 14)), (some 16, .bin .lss (.tmp 13) (.tmp 15))]⟩]) (.cond (.tmp 16) .skip (.exit 0))) (.seq (.block 1 (.seq (.fork [[⟨some 19, none, .mv (.tmp 0), false, 0, 2⟩, ⟨some
    20, none, .mv (.tmp 5), false, 0, 2⟩, ⟨some 21, none, .iaddr 7 (.tmp 19) (.tmp 20), false, 0, 2⟩, ⟨some 22, none, .load true 7 (.tmp 21), false, 0, 2⟩, ⟨some 23, none, .mv (.tmp 1), false, 0, 3⟩, ⟨some 24, none, .mv (.tmp 5),
    false, 0, 3⟩, ⟨some 25, none, .iaddr 7 (.tmp 23) (.tmp 24), false, 0, 3⟩, ⟨some 26, none, .load true 7 (.tmp 25), false, 0, 3⟩, ⟨some 6, none, .alloc 83 [.int .i64 0, .int .i64 0, .str [], .str [], .str [], .str [], .lit (.slice
    none 0 0)], true, 0, 0⟩, ⟨some 7, none, .alloc 83 [.int .i64 0, .int .i64 0, .str [], .str [], .str [], .str [], .lit (.slice none 0 0)], true, 0, 0⟩, ⟨none, none, .store 7 (.tmp 6) (.tmp 22), true, 0, 0⟩, ⟨none, none, .store 7
    (.tmp 7) (.tmp 26), true, 0, 0⟩], [⟨some 19, none, .mv (.tmp 0), false, 0, 2⟩, ⟨some 20, none, .mv (.tmp 5), false, 0, 2⟩, ⟨some 21, none, .iaddr 7 (.tmp 19) (.tmp 20), false, 0, 2⟩, ⟨some 22, none, .load true 7 (.tmp 21),
    false, 0, 2⟩, ⟨some 23, none, .mv (.tmp 1), false, 0, 3⟩, ⟨some 24, none, .mv (.tmp 5), false, 0, 3⟩, ⟨some 25, none, .iaddr 7 (.tmp 23) (.tmp 24), false, 0, 3⟩, ⟨some 26, none, .load true 7 (.tmp 25), false, 0, 3⟩, ⟨some 7,
    none, .alloc 83 [.int .i64 0, .int .i64 0, .str [], .str [], .str [], .str [], .lit (.slice none 0 0)], true, 0, 0⟩, ⟨some 6, none, .alloc 83 [.int .i64 0, .int .i64 0, .str [], .str [], .str [], .str [], .lit (.slice none 0
    0)], true, 0, 0⟩, ⟨none, none, .store 7 (.tmp 6) (.tmp 22), true, 0, 0⟩, ⟨none, none, .store 7 (.tmp 7) (.tmp 26), true, 0, 0⟩]]) (.seq (.region [⟨none, [(some 27, .faddr 0 (.tmp 6)), (some 28, .load false 1 (.tmp 27)), (some
    29, .faddr 0 (.tmp 7)), (some 30, .load false 1 (.tmp 29)), (some 31, .bin .neq (.tmp 28) (.tmp 30)), (some 32, .mv (.tmp 31))]⟩, ⟨some (32, false), [(some 33, .faddr 1 (.tmp 6)), (some 34, .load false 1 (.tmp 33)), (some 35,
    .faddr 1 (.tmp 7)), (some 36, .load false 1 (.tmp 35)), (some 37, .bin .neq (.tmp 34) (.tmp 36))]⟩, ⟨none, [(some 38, .pick (.tmp 32) (.con (.bool true)) (.tmp 37)), (some 39, .mv (.tmp 38))]⟩, ⟨some (39, false), [(some 40,
    .faddr 2 (.tmp 6)), (some 41, .load false 1 (.tmp 40)), (some 42, .faddr 2 (.tmp 7)), (some 43, .load false 1 (.tmp 42)), (some 44, .bin .neq (.tmp 41) (.tmp 43))]⟩, ⟨none, [(some 45, .pick (.tmp 39) (.con (.bool true)) (.tmp
    44)), (some 46, .mv (.tmp 45))]⟩, ⟨some (46, false), [(some 47, .faddr 3 (.tmp 6)), (some 48, .load false 1 (.tmp 47)), (some 49, .faddr 3 (.tmp 7)), (some 50, .load false 1 (.tmp 49)), (some 51, .bin .neq (.tmp 48) (.tmp
    50))]⟩, ⟨none, [(some 52, .pick (.tmp 46) (.con (.bool true)) (.tmp 51)), (some 53, .mv (.tmp 52))]⟩, ⟨some (53, false), [(some 54, .faddr 4 (.tmp 6)), (some 55, .load false 1 (.tmp 54)), (some 56, .faddr 4 (.tmp 7)), (some 57,
    .load false 1 (.tmp 56)), (some 58, .bin .neq (.tmp 55) (.tmp 57))]⟩, ⟨none, [(some 59, .pick (.tmp 53) (.con (.bool true)) (.tmp 58)), (some 60, .mv (.tmp 59))]⟩, ⟨some (60, false), [(some 61, .faddr 5 (.tmp 6)), (some 62,
    .load false 1 (.tmp 61)), (some 63, .faddr 5 (.tmp 7)), (some 64, .load false 1 (.tmp 63)), (some 65, .bin .neq (.tmp 62) (.tmp 64))]⟩, ⟨none, [(some 66, .pick (.tmp 60) (.con (.bool true)) (.tmp 65)), (some 67, .mv (.tmp
    66))]⟩, ⟨some (67, false), [(some 68, .faddr 6 (.tmp 6)), (some 69, .load false 1 (.tmp 68)), (some 70, .faddr 6 (.tmp 7)), (some 71, .load false 1 (.tmp 70)), (some 72, .call 62 [.tmp 69, .tmp 71]), (some 73, .un .not (.tmp
    72))]⟩, ⟨none, [(some 74, .pick (.tmp 67) (.con (.bool true)) (.tmp 73))]⟩]) (.cond (.tmp 74) (.seq (.region [⟨none, [(some 4, .mv (.con (.bool false)))]⟩]) .ret) .skip)))) (.region [⟨none, [(some 17, .mv (.tmp 5)), (some 18,
    .bin .add (.tmp 17) (.con (.int .i64 1))), (some 5, .mv (.tmp 18))]⟩])))))) (.seq (.region [⟨none, [(some 4, .mv (.con (.bool true)))]⟩]) .ret)))
theorem lowr9_SameFilter : lowerFO [] prog 61 = some ⟨75, [LRes.tmp 4], Br9_SameFilter⟩ := by kernel_rfl

@[irreducible] def Br9_texts : LCode :=
  .seq (.region [⟨none, [(some 4, .mv (.con (.bool false)))]⟩]) (.seq (.seq (.region [⟨none, [(some 6, .mv (.tmp 0)), (some 7, .len (.tmp 6)), (some 8, .mv (.tmp 1)), (some 9, .len (.tmp 8)), (some 10, .bin .neq (.tmp 7) (.tmp
    9))]⟩]) (.cond (.tmp 10) (.seq (.region [⟨none, [(some 4, .mv (.con (.bool false)))]⟩]) .ret) .skip)) (.seq (.seq (.region [⟨none, [(some 5, .mv (.con (.int .i64 0)))]⟩]) (.block 0 (.loop (.seq (.seq (.region [⟨none, [(some 11,
    .mv (.tmp 5)), (some 12, .mv (.tmp 0)), (some 13, .len (.tmp 12)), (some 14, .bin .lss (.tmp 11) (.tmp 13))]⟩]) (.cond (.tmp 14) .skip (.exit 0))) (.seq (.block 1 (.seq (.quiet [⟨some 17, none, .mv (.tmp 0), false, 0, 0⟩, ⟨some
    18, none, .mv (.tmp 5), false, 0, 0⟩, ⟨some 19, none, .iaddr 1 (.tmp 17) (.tmp 18), false, 0, 0⟩, ⟨some 20, none, .load false 1 (.tmp 19), false, 0, 0⟩, ⟨some 21, none, .mv (.tmp 1), false, 0, 0⟩, ⟨some 22, none, .mv (.tmp 5),
    false, 0, 0⟩, ⟨some 23, none, .iaddr 1 (.tmp 21) (.tmp 22), false, 0, 0⟩, ⟨some 24, none, .load false 1 (.tmp 23), false, 0, 0⟩, ⟨some 25, none, .bin .neq (.tmp 20) (.tmp 24), false, 0, 0⟩]) (.cond (.tmp 25) (.seq (.region
    [⟨none, [(some 4, .mv (.con (.bool false)))]⟩]) .ret) .skip))) (.region [⟨none, [(some 15, .mv (.tmp 5)), (some 16, .bin .add (.tmp 15) (.con (.int .i64 1))), (some 5, .mv (.tmp 16))]⟩])))))) (.seq (.region [⟨none, [(some 4, .mv
    (.con (.bool true)))]⟩]) .ret)))
theorem lowr9_texts : lowerFO [] prog 62 = some ⟨26, [LRes.tmp 4], Br9_texts⟩ := by kernel_rfl

@[irreducible] def Br9_SameMods : LCode :=
  .seq (.region [⟨none, [(some 4, .mv (.con (.bool false)))]⟩]) (.seq (.seq (.region [⟨none, [(some 6, .mv (.tmp 0)), (some 7, .len (.tmp 6)), (some 8, .mv (.tmp 1)), (some 9, .len (.tmp 8)), (some 10, .bin .neq (.tmp 7) (.tmp
    9))]⟩]) (.cond (.tmp 10) (.seq (.region [⟨none, [(some 4, .mv (.con (.bool false)))]⟩]) .ret) .skip)) (.seq (.seq (.region [⟨none, [(some 5, .mv (.con (.int .i64 0)))]⟩]) (.block 0 (.loop (.seq (.seq (.region [⟨none, [(some 11,
    .mv (.tmp 5)), (some 12, .mv (.tmp 0)), (some 13, .len (.tmp 12)), (some 14, .bin .lss (.tmp 11) (.tmp 13))]⟩]) (.cond (.tmp 14) .skip (.exit 0))) (.seq (.block 1 (.seq (.quiet [⟨some 17, none, .mv (.tmp 0), false, 0, 0⟩, ⟨some
    18, none, .mv (.tmp 5), false, 0, 0⟩, ⟨some 19, none, .iaddr 3 (.tmp 17) (.tmp 18), false, 0, 0⟩, ⟨some 20, none, .faddr 0 (.tmp 19), false, 0, 0⟩, ⟨some 21, none, .load false 1 (.tmp 20), false, 0, 0⟩, ⟨some 22, none, .mv (.tmp
    1), false, 0, 0⟩, ⟨some 23, none, .mv (.tmp 5), false, 0, 0⟩, ⟨some 24, none, .iaddr 3 (.tmp 22) (.tmp 23), false, 0, 0⟩, ⟨some 25, none, .faddr 0 (.tmp 24), false, 0, 0⟩, ⟨some 26, none, .load false 1 (.tmp 25), false, 0, 0⟩,
    ⟨some 27, none, .bin .neq (.tmp 21) (.tmp 26), false, 0, 0⟩, ⟨some 28, none, .mv (.tmp 27), false, 0, 0⟩, ⟨some 29, some (28, false), .mv (.tmp 0), false, 0, 0⟩, ⟨some 30, some (28, false), .mv (.tmp 5), false, 0, 0⟩, ⟨some 31,
    some (28, false), .iaddr 3 (.tmp 29) (.tmp 30), false, 0, 0⟩, ⟨some 32, some (28, false), .faddr 1 (.tmp 31), false, 0, 0⟩, ⟨some 33, some (28, false), .load false 1 (.tmp 32), false, 0, 0⟩, ⟨some 34, some (28, false), .mv (.tmp
    1), false, 0, 0⟩, ⟨some 35, some (28, false), .mv (.tmp 5), false, 0, 0⟩, ⟨some 36, some (28, false), .iaddr 3 (.tmp 34) (.tmp 35), false, 0, 0⟩, ⟨some 37, some (28, false), .faddr 1 (.tmp 36), false, 0, 0⟩, ⟨some 38, some (28,
    false), .load false 1 (.tmp 37), false, 0, 0⟩, ⟨some 39, some (28, false), .bin .neq (.tmp 33) (.tmp 38), false, 0, 0⟩, ⟨some 40, none, .pick (.tmp 28) (.con (.bool true)) (.tmp 39), false, 0, 0⟩, ⟨some 41, none, .mv (.tmp 40),
    false, 0, 0⟩, ⟨some 42, some (41, false), .mv (.tmp 0), false, 0, 0⟩, ⟨some 43, some (41, false), .mv (.tmp 5), false, 0, 0⟩, ⟨some 44, some (41, false), .iaddr 3 (.tmp 42) (.tmp 43), false, 0, 0⟩, ⟨some 45, some (41, false),
    .faddr 2 (.tmp 44), false, 0, 0⟩, ⟨some 46, some (41, false), .load false 1 (.tmp 45), false, 0, 0⟩, ⟨some 47, some (41, false), .mv (.tmp 1), false, 0, 0⟩, ⟨some 48, some (41, false), .mv (.tmp 5), false, 0, 0⟩, ⟨some 49, some
    (41, false), .iaddr 3 (.tmp 47) (.tmp 48), false, 0, 0⟩, ⟨some 50, some (41, false), .faddr 2 (.tmp 49), false, 0, 0⟩, ⟨some 51, some (41, false), .load false 1 (.tmp 50), false, 0, 0⟩, ⟨some 52, some (41, false), .call 62 [.tmp
    46, .tmp 51], false, 0, 0⟩, ⟨some 53, some (41, false), .un .not (.tmp 52), false, 0, 0⟩, ⟨some 54, none, .pick (.tmp 41) (.con (.bool true)) (.tmp 53), false, 0, 0⟩]) (.cond (.tmp 54) (.seq (.region [⟨none, [(some 4, .mv (.con
    (.bool false)))]⟩]) .ret) .skip))) (.region [⟨none, [(some 15, .mv (.tmp 5)), (some 16, .bin .add (.tmp 15) (.con (.int .i64 1))), (some 5, .mv (.tmp 16))]⟩])))))) (.seq (.region [⟨none, [(some 4, .mv (.con (.bool true)))]⟩])
    .ret)))
theorem lowr9_SameMods : lowerFO [] prog 63 = some ⟨55, [LRes.tmp 4], Br9_SameMods⟩ := by kernel_rfl

@[irreducible] def Br7_SameAttrs : LCode :=
  .seq (.region [⟨none, [(some 4, .mv (.con (.bool false)))]⟩]) (.seq (.seq (.region [⟨none, [(some 7, .mv (.tmp 0)), (some 8, .len (.tmp 7)), (some 9, .mv (.tmp 1)), (some 10, .len (.tmp 9)), (some 11, .bin .neq (.tmp 8) (.tmp
    10))]⟩]) (.cond (.tmp 11) (.seq (.region [⟨none, [(some 4, .mv (.con (.bool false)))]⟩]) .ret) .skip)) (.seq (.seq (.region [⟨none, [(some 5, .mv (.con (.int .i64 0)))]⟩]) (.block 0 (.loop (.seq (.seq (.region [⟨none, [(some 12,
    .mv (.tmp 5)), (some 13, .mv (.tmp 0)), (some 14, .len (.tmp 13)), (some 15, .bin .lss (.tmp 12) (.tmp 14))]⟩]) (.cond (.tmp 15) .skip (.exit 0))) (.seq (.block 1 (.seq (.seq (.quiet [⟨some 18, none, .mv (.tmp 0), false, 0, 0⟩,
    ⟨some 19, none, .mv (.tmp 5), false, 0, 0⟩, ⟨some 20, none, .iaddr 2 (.tmp 18) (.tmp 19), false, 0, 0⟩, ⟨some 21, none, .faddr 0 (.tmp 20), false, 0, 0⟩, ⟨some 22, none, .load false 1 (.tmp 21), false, 0, 0⟩, ⟨some 23, none, .mv
    (.tmp 1), false, 0, 0⟩, ⟨some 24, none, .mv (.tmp 5), false, 0, 0⟩, ⟨some 25, none, .iaddr 2 (.tmp 23) (.tmp 24), false, 0, 0⟩, ⟨some 26, none, .faddr 0 (.tmp 25), false, 0, 0⟩, ⟨some 27, none, .load false 1 (.tmp 26), false, 0,
    0⟩, ⟨some 28, none, .bin .neq (.tmp 22) (.tmp 27), false, 0, 0⟩, ⟨some 29, none, .mv (.tmp 28), false, 0, 0⟩, ⟨some 30, some (29, false), .mv (.tmp 0), false, 0, 0⟩, ⟨some 31, some (29, false), .mv (.tmp 5), false, 0, 0⟩, ⟨some
    32, some (29, false), .iaddr 2 (.tmp 30) (.tmp 31), false, 0, 0⟩, ⟨some 33, some (29, false), .faddr 1 (.tmp 32), false, 0, 0⟩, ⟨some 34, some (29, false), .load false 1 (.tmp 33), false, 0, 0⟩, ⟨some 35, some (29, false), .len
    (.tmp 34), false, 0, 0⟩, ⟨some 36, some (29, false), .mv (.tmp 1), false, 0, 0⟩, ⟨some 37, some (29, false), .mv (.tmp 5), false, 0, 0⟩, ⟨some 38, some (29, false), .iaddr 2 (.tmp 36) (.tmp 37), false, 0, 0⟩, ⟨some 39, some (29,
    false), .faddr 1 (.tmp 38), false, 0, 0⟩, ⟨some 40, some (29, false), .load false 1 (.tmp 39), false, 0, 0⟩, ⟨some 41, some (29, false), .len (.tmp 40), false, 0, 0⟩, ⟨some 42, some (29, false), .bin .neq (.tmp 35) (.tmp 41),
    false, 0, 0⟩, ⟨some 43, none, .pick (.tmp 29) (.con (.bool true)) (.tmp 42), false, 0, 0⟩]) (.cond (.tmp 43) (.seq (.region [⟨none, [(some 4, .mv (.con (.bool false)))]⟩]) .ret) .skip)) (.seq (.region [⟨none, [(some 6, .mv (.con
    (.int .i64 0)))]⟩]) (.block 2 (.loop (.seq (.seq (.region [⟨none, [(some 44, .mv (.tmp 6)), (some 45, .mv (.tmp 0)), (some 46, .mv (.tmp 5)), (some 47, .iaddr 2 (.tmp 45) (.tmp 46)), (some 48, .faddr 1 (.tmp 47)), (some 49,
    .load false 1 (.tmp 48)), (some 50, .len (.tmp 49)), (some 51, .bin .lss (.tmp 44) (.tmp 50))]⟩]) (.cond (.tmp 51) .skip (.exit 2))) (.seq (.block 3 (.seq (.quiet [⟨some 54, none, .mv (.tmp 0), false, 0, 0⟩, ⟨some 55, none, .mv
    (.tmp 5), false, 0, 0⟩, ⟨some 56, none, .iaddr 2 (.tmp 54) (.tmp 55), false, 0, 0⟩, ⟨some 57, none, .faddr 1 (.tmp 56), false, 0, 0⟩, ⟨some 58, none, .load false 1 (.tmp 57), false, 0, 0⟩, ⟨some 59, none, .mv (.tmp 6), false, 0,
    0⟩, ⟨some 60, none, .iaddr 1 (.tmp 58) (.tmp 59), false, 0, 0⟩, ⟨some 61, none, .load false 1 (.tmp 60), false, 0, 0⟩, ⟨some 62, none, .mv (.tmp 1), false, 0, 0⟩, ⟨some 63, none, .mv (.tmp 5), false, 0, 0⟩, ⟨some 64, none,
    .iaddr 2 (.tmp 62) (.tmp 63), false, 0, 0⟩, ⟨some 65, none, .faddr 1 (.tmp 64), false, 0, 0⟩, ⟨some 66, none, .load false 1 (.tmp 65), false, 0, 0⟩, ⟨some 67, none, .mv (.tmp 6), false, 0, 0⟩, ⟨some 68, none, .iaddr 1 (.tmp 66)
    (.tmp 67), false, 0, 0⟩, ⟨some 69, none, .load false 1 (.tmp 68), false, 0, 0⟩, ⟨some 70, none, .bin .neq (.tmp 61) (.tmp 69), false, 0, 0⟩]) (.cond (.tmp 70) (.seq (.region [⟨none, [(some 4, .mv (.con (.bool false)))]⟩]) .ret)
    .skip))) (.region [⟨none, [(some 52, .mv (.tmp 6)), (some 53, .bin .add (.tmp 52) (.con (.int .i64 1))), (some 6, .mv (.tmp 53))]⟩])))))))) (.region [⟨none, [(some 16, .mv (.tmp 5)), (some 17, .bin .add (.tmp 16) (.con (.int
    .i64 1))), (some 5, .mv (.tmp 17))]⟩])))))) (.seq (.region [⟨none, [(some 4, .mv (.con (.bool true)))]⟩]) .ret)))
theorem lowr7_SameAttrs : lowerFO [] prog 64 = some ⟨71, [LRes.tmp 4], Br7_SameAttrs⟩ := by kernel_rfl

@[irreducible] def Br9_SameControls : LCode :=
  .seq (.region [⟨none, [(some 4, .mv (.con (.bool false)))]⟩]) (.seq (.seq (.region [⟨none, [(some 6, .mv (.tmp 0)), (some 7, .len (.tmp 6)), (some 8, .mv (.tmp 1)), (some 9, .len (.tmp 8)), (some 10, .bin .neq (.tmp 7) (.tmp
    9))]⟩]) (.cond (.tmp 10) (.seq (.region [⟨none, [(some 4, .mv (.con (.bool false)))]⟩]) .ret) .skip)) (.seq (.seq (.region [⟨none, [(some 5, .mv (.con (.int .i64 0)))]⟩]) (.block 0 (.loop (.seq (.seq (.region [⟨none, [(some 11,
    .mv (.tmp 5)), (some 12, .mv (.tmp 0)), (some 13, .len (.tmp 12)), (some 14, .bin .lss (.tmp 11) (.tmp 13))]⟩]) (.cond (.tmp 14) .skip (.exit 0))) (.seq (.block 1 (.seq (.quiet [⟨some 17, none, .mv (.tmp 0), false, 0, 0⟩, ⟨some
    18, none, .mv (.tmp 5), false, 0, 0⟩, ⟨some 19, none, .iaddr 4 (.tmp 17) (.tmp 18), false, 0, 0⟩, ⟨some 20, none, .load true 4 (.tmp 19), false, 0, 0⟩, ⟨some 21, none, .mv (.tmp 1), false, 0, 0⟩, ⟨some 22, none, .mv (.tmp 5),
    false, 0, 0⟩, ⟨some 23, none, .iaddr 4 (.tmp 21) (.tmp 22), false, 0, 0⟩, ⟨some 24, none, .load true 4 (.tmp 23), false, 0, 0⟩, ⟨some 25, none, .deq true [] [(0, 2), (1, 1), (2, 1), (3, 2)] (.tmp 20) (.tmp 24), false, 0, 0⟩])
    (.cond (.tmp 25) (.seq (.region [⟨none, [(some 4, .mv (.con (.bool false)))]⟩]) .ret) .skip))) (.region [⟨none, [(some 15, .mv (.tmp 5)), (some 16, .bin .add (.tmp 15) (.con (.int .i64 1))), (some 5, .mv (.tmp 16))]⟩]))))))
    (.seq (.region [⟨none, [(some 4, .mv (.con (.bool true)))]⟩]) .ret)))
theorem lowr9_SameControls : lowerFO [] prog 65 = some ⟨26, [LRes.tmp 4], Br9_SameControls⟩ := by kernel_rfl

end Go.Proofs.YtajbeippbabhhaaGreatDoor.Eng

namespace Go.Proofs.YtajbeippbabhhaaGreatDoor.Eng
open Go Go.Proofs.Tryz

/-! ## Small functions of message -/
def intRow (l : List Int) : List (List AV) := l.map fun n => [.int .i64 n]
theorem intRow_length (l : List Int) : (intRow l).length = l.length := by simp [intRow]
theorem intRow_take (l : List Int) : (intRow l).take l.length = intRow l := by rw [← intRow_length l]; exact List.take_length
theorem intRow_at {l : List Int} {i : Nat} {k : Int} (h : l[i]? = some k) : (intRow l)[i]? = some [.int .i64 k] := by simp [intRow, h]
def idxI : List Int → Int → Nat → Int
  | [], _, _ => -1
  | a :: l, x, i => if a = x then (i : Int) else idxI l x (i + 1)
theorem idxI_ge (x : Int) : ∀ (l : List Int) (i : Nat), (idxI l x i ≥ 0) ↔ x ∈ l
  | [], i => by simp [idxI]
  | a :: l, i => by
    unfold idxI
    by_cases h : a = x
    · subst h; simp
    · rw [if_neg h, idxI_ge x l (i + 1)]
      have : ¬ x = a := fun e => h e.symm
      simp [this]

theorem dropC {α : Type} {l : List α} {i : Nat} {k : α} (h : l[i]? = some k) : l.drop i = k :: l.drop (i + 1) := by
  obtain ⟨hi, e⟩ := List.getElem?_eq_some_iff.1 h
  rw [List.drop_eq_getElem_cons hi, e]

theorem cs_indexI (l : List Int) (x : Int) (hl : l.length ≤ maxB) : Pure prog 306 [.sl 1 (intRow l) l.length, .int .i64 x] (.int .i64 (idxI l x 0)) := by
  refine Pure.of (fun _ _ => by simp only [nm]) fun S => acalls_of_vc lows_indexI (by simp) ?_
  unfold maxB at hl
  simp -implicitDefEqProofs only [Bs_indexI, intRow_take, intRow_length, go_sem, reduceIte, Nat.reduceEqDiff, Nat.reduceAdd, Nat.reduceLeDiff, Nat.reduceLT, decide_true, decide_false, vc_cond2, vcGrps_guard2, vcD_val2, vcD_guard2]
  intro _
  refine vc_loop (fun n fr S' => ∃ i, i + n = l.length ∧ fr 0 = .sl 1 (intRow l) l.length ∧ fr 1 = .int .i64 x ∧ fr 7 = .int .i64 l.length ∧ fr 8 = .int .i64 i ∧ S' = S ∧ idxI (l.drop i) x i = idxI l x 0) l.length
    ⟨0, by simp, rfl, rfl, rfl, rfl, rfl, rfl⟩ ?_
  rintro n fr S' ⟨i, hin, f0, f1, f7, f8, rfl, hd⟩
  by_cases hlt : i < l.length
  · obtain ⟨k, hk⟩ : ∃ k, l[i]? = some k := ⟨_, List.getElem?_eq_getElem hlt⟩
    have hat := intRow_at hk
    have h0 : (0 : Int) ≤ i := by omega
    have hlt' : (i : Int) < l.length := by omega
    have hi1 : IntKind.i64.wrap ((i : Int) + 1) = i + 1 := w64 _ (by omega) (by omega)
    rw [dropC hk] at hd
    rw [idxI] at hd
    simp -implicitDefEqProofs only [f0, f1, f7, f8, hlt, hlt', h0, hat, hi1, decide_true, go_sem, reduceIte, Nat.reduceEqDiff, Nat.reduceAdd, Nat.reduceLeDiff, Nat.reduceLT, decide_true, decide_false, vc_cond2, vcGrps_guard2, vcD_val2, vcD_guard2]
    refine ⟨fun h => ?_, fun h => ?_⟩
    · rw [if_pos h.symm] at hd
      rw [← hd]; exact ⟨rfl, Ext.refl _⟩
    · rw [if_neg fun e => h e.symm] at hd
      exact ⟨n - 1, by omega, i + 1, by omega, by simp, hd⟩
  · have hlt' : ¬ (i : Int) < l.length := by omega
    have hi : i = l.length := by omega
    rw [hi, List.drop_length] at hd
    simp only [idxI] at hd
    simp -implicitDefEqProofs only [f0, f1, f7, f8, hlt', decide_false, go_sem, reduceIte, Nat.reduceEqDiff, Nat.reduceAdd, Nat.reduceLeDiff, Nat.reduceLT, decide_true, decide_false, vc_cond2, vcGrps_guard2, vcD_val2, vcD_guard2]
    rw [← hd]; exact ⟨rfl, Ext.refl _⟩

theorem cs_containsI (l : List Int) (x : Int) (hl : l.length ≤ maxB) : Pure prog 244 [.sl 1 (intRow l) l.length, .int .i64 x] (.bool (decide (x ∈ l))) := by
  refine Pure.of (fun _ _ => by simp only [nm]) fun S => acalls_of_vc lows_containsI (by simp) ?_
  simp -implicitDefEqProofs only [Bs_containsI, go_sem, reduceIte, Nat.reduceEqDiff, Nat.reduceAdd, Nat.reduceLeDiff, Nat.reduceLT, decide_true, decide_false, vc_cond2, vcGrps_guard2, vcD_val2, vcD_guard2]
  refine (cs_indexI l x hl).use ?_
  simp -implicitDefEqProofs only [idxI_ge, go_sem, reduceIte, Nat.reduceEqDiff, Nat.reduceAdd, Nat.reduceLeDiff, Nat.reduceLT, decide_true, decide_false, vc_cond2, vcGrps_guard2, vcD_val2, vcD_guard2]
  exact Ext.refl _

theorem cm_isOp (l : List Int) (x : Int) (hl : l.length ≤ maxB) : Pure prog 148 [.int .i64 x, .sl 1 (intRow l) l.length] (.bool (decide (x ∈ l))) := by
  refine Pure.of (fun _ _ => by simp only [nm]) fun S => acalls_of_vc lowm_isOp (by simp) ?_
  simp -implicitDefEqProofs only [Bm_isOp, go_sem, reduceIte, Nat.reduceEqDiff, Nat.reduceAdd, Nat.reduceLeDiff, Nat.reduceLT, decide_true, decide_false, vc_cond2, vcGrps_guard2, vcD_val2, vcD_guard2]
  refine (cs_containsI l x hl).use ?_
  simp -implicitDefEqProofs only [go_sem, reduceIte, Nat.reduceEqDiff, Nat.reduceAdd, Nat.reduceLeDiff, Nat.reduceLT, decide_true, decide_false, vc_cond2, vcGrps_guard2, vcD_val2, vcD_guard2]
  exact Ext.refl _

def reqL : List Int := [0, 2, 3, 6, 8, 10, 12, 14, 16, 23]
def resL' : List Int := [1, 5, 7, 9, 11, 13, 15, 24]
def isReq (n : Int) : Bool := decide (n ∈ reqL)
def isRes (n : Int) : Bool := decide (n ∈ resL')
theorem cm_IsRequest (x : Int) : Pure prog 27 [.int .i64 x] (.bool (isReq x)) := by
  refine Pure.of (fun _ _ => by simp only [nm]) fun S => acalls_of_vc lowm_IsRequest (by simp) ?_
  simp -implicitDefEqProofs only [Bm_IsRequest, go_sem, reduceIte, Nat.reduceEqDiff, Nat.reduceAdd, Nat.reduceLeDiff, Nat.reduceLT, decide_true, decide_false, vc_cond2, vcGrps_guard2, vcD_val2, vcD_guard2]
  refine (cm_isOp reqL x (by decide)).use ?_
  simp -implicitDefEqProofs only [go_sem, reduceIte, Nat.reduceEqDiff, Nat.reduceAdd, Nat.reduceLeDiff, Nat.reduceLT, decide_true, decide_false, vc_cond2, vcGrps_guard2, vcD_val2, vcD_guard2]
  exact ⟨rfl, Ext.refl _⟩
theorem cm_isResult (x : Int) : Pure prog 182 [.int .i64 x] (.bool (isRes x)) := by
  refine Pure.of (fun _ _ => by simp only [nm]) fun S => acalls_of_vc lowm_isResult (by simp) ?_
  simp -implicitDefEqProofs only [Bm_isResult, go_sem, reduceIte, Nat.reduceEqDiff, Nat.reduceAdd, Nat.reduceLeDiff, Nat.reduceLT, decide_true, decide_false, vc_cond2, vcGrps_guard2, vcD_val2, vcD_guard2]
  refine (cm_isOp resL' x (by decide)).use ?_
  simp -implicitDefEqProofs only [go_sem, reduceIte, Nat.reduceEqDiff, Nat.reduceAdd, Nat.reduceLeDiff, Nat.reduceLT, decide_true, decide_false, vc_cond2, vcGrps_guard2, vcD_val2, vcD_guard2]
  exact ⟨rfl, Ext.refl _⟩

def replyS (n : Int) : Int := if isReq n = false ∨ n = 2 ∨ n = 16 then -1 else if n = 3 then 5 else n + 1
theorem isReq_le {n : Int} (h : isReq n = true) : 0 ≤ n ∧ n ≤ 23 := by
  simp only [isReq, reqL, decide_eq_true_eq, List.mem_cons, List.not_mem_nil, or_false] at h
  omega
theorem cm_Reply (x : Int) : Pure prog 26 [.int .i64 x] (.int .i64 (replyS x)) := by
  refine Pure.of (fun _ _ => by simp only [nm]) fun S => acalls_of_vc lowm_Reply (by simp) ?_
  simp -implicitDefEqProofs only [Bm_Reply, go_sem, reduceIte, Nat.reduceEqDiff, Nat.reduceAdd, Nat.reduceLeDiff, Nat.reduceLT, decide_true, decide_false, vc_cond2, vcGrps_guard2, vcD_val2, vcD_guard2]
  refine (cm_IsRequest x).use ?_
  unfold replyS
  cases hr : isReq x with
  | false =>
    simp -implicitDefEqProofs only [hr, Nat.reduceBEq, go_sem, reduceIte, Nat.reduceEqDiff, Nat.reduceAdd, Nat.reduceLeDiff, Nat.reduceLT, decide_true, decide_false, vc_cond2, vcGrps_guard2, vcD_val2, vcD_guard2]
    simp [Ext.refl]
  | true =>
    have hle := isReq_le hr
    have hi1 : IntKind.i64.wrap (x + 1) = x + 1 := w64 _ (by omega) (by omega)
    by_cases h2 : x = 2
    · simp -implicitDefEqProofs only [hr, h2, go_sem, reduceIte, Nat.reduceEqDiff, Nat.reduceAdd, Nat.reduceLeDiff, Nat.reduceLT, decide_true, decide_false, vc_cond2, vcGrps_guard2, vcD_val2, vcD_guard2]
      simp [Ext.refl]
    · by_cases h16 : x = 16
      · simp -implicitDefEqProofs only [hr, h16, h2, go_sem, reduceIte, Nat.reduceEqDiff, Nat.reduceAdd, Nat.reduceLeDiff, Nat.reduceLT, decide_true, decide_false, vc_cond2, vcGrps_guard2, vcD_val2, vcD_guard2]
        simp [Ext.refl]
      · by_cases h3 : x = 3
        · simp -implicitDefEqProofs only [hr, h16, h2, h3, go_sem, reduceIte, Nat.reduceEqDiff, Nat.reduceAdd, Nat.reduceLeDiff, Nat.reduceLT, decide_true, decide_false, vc_cond2, vcGrps_guard2, vcD_val2, vcD_guard2]
          simp [Ext.refl]
        · simp -implicitDefEqProofs only [hr, h16, h2, h3, hi1, go_sem, reduceIte, Nat.reduceEqDiff, Nat.reduceAdd, Nat.reduceLeDiff, Nat.reduceLT, decide_true, decide_false, vc_cond2, vcGrps_guard2, vcD_val2, vcD_guard2]
          simp [Ext.refl]

theorem cm_inRange (n most : Int) : Pure prog 44 [.int .i64 n, .int .i64 most] (.bool (decide (0 ≤ n ∧ n ≤ most))) := by
  refine Pure.of (fun _ _ => by simp only [nm]) fun S => acalls_of_vc lowm_inRange (by simp) ?_
  by_cases h : 0 ≤ n
  · have h' : n ≥ 0 := h
    simp -implicitDefEqProofs only [Bm_inRange, h, h', decide_true, go_sem, reduceIte, Nat.reduceEqDiff, Nat.reduceAdd, Nat.reduceLeDiff, Nat.reduceLT, decide_true, decide_false, vc_cond2, vcGrps_guard2, vcD_val2, vcD_guard2]
    exact Ext.refl _
  · have h' : ¬ n ≥ 0 := h
    simp -implicitDefEqProofs only [Bm_inRange, h, h', decide_false, go_sem, reduceIte, Nat.reduceEqDiff, Nat.reduceAdd, Nat.reduceLeDiff, Nat.reduceLT, decide_true, decide_false, vc_cond2, vcGrps_guard2, vcD_val2, vcD_guard2]
    exact Ext.refl _
end Go.Proofs.YtajbeippbabhhaaGreatDoor.Eng

namespace Go.Proofs.YtajbeippbabhhaaGreatDoor.Eng
open Go Go.Proofs.Tryz

theorem Pure.outA {P : Program} {f : FuncId} {args : List AV} {v : AV} (hn : ∀ n, nmL n args → nm n v) (h : ∀ S, ACalls P f args S (outK S v)) : Pure P f args v := fun S => by
  refine ACalls.wf fun hwf hna => (h S).turn fun r S' ⟨h1, h2⟩ => ?_
  have hreset : ∀ (T : Store), Ext S T → Turn S.n [v] T [v] S := fun T hE => Turn.reset hE.n (Nat.le_refl _) (fun l o e => by
    obtain ⟨a1, a2⟩ := hwf l o e
    exact ⟨by rw [hE.get l a1]; exact e, a1, a2⟩) (by simp only [nmL]; exact ⟨hn _ hna, trivial⟩)
  refine ⟨v, S, ?_, ?_⟩
  rotate_left
  · rcases h2 with ⟨v0, rfl, _⟩ | ⟨k, t, s, frz, es, v0, _, rfl, _⟩ <;> exact ⟨rfl, rfl⟩
  rcases h2 with ⟨v0, rfl, hw⟩ | ⟨k, t, s, frz, es, v0, hk, rfl, hrow, hok, hv⟩
  · exact Turn.trans (Turn.weak (.cons hw .nil)) (hreset _ h1)
  · have t1 := Turn.freeze (n0 := S.n) (vs := [v0]) hrow (by simp only [fzOkL, and_true]; exact hok)
    simp only [fzL, hv] at t1
    exact Turn.trans t1 (hreset _ (h1.set _ _ hk))

theorem nil_nil (n : Nat) : nilOr n (.lit (.slice none 0 0)) (.sl n [] 0) := .inr ⟨rfl, rfl⟩

def resultM (id op code : Int) (matched text : Byt) : Msg := { Msg.zero with id := id, op := op, code := code, matched := matched, text := text }
theorem cm_Result (id op code : Int) (matched text : Byt) : Pure prog 28 [.int .i64 id, .int .i64 op, .int .i64 code, .str matched, .str text] (.agg (resultM id op code matched text).enc) := by
  refine Pure.outA (fun n _ => by simp only [nm, nmL, nmLL, resultM, Msg.zero, Msg.enc, filV, txV, mdfV, attV, ctlV, encT, List.map_nil, List.append_nil, and_true]) fun S => acalls_of_vc lowm_Result (by simp) ?_
  simp -implicitDefEqProofs only [Bm_Result, go_sem, reduceIte, Nat.reduceEqDiff, Nat.reduceAdd, Nat.reduceLeDiff, Nat.reduceLT, decide_true, decide_false, vc_cond2, vcGrps_guard2, vcD_val2, vcD_guard2]
  refine ⟨(Ext.refl S).push _ |>.set _ _ (by omega), .inl ⟨_, rfl, ?_⟩⟩
  exact MV.wk _ _ (nil_nil 7) (nil_nil 1) (nil_nil 3) (nil_nil 2) (nil_nil 4) rfl

def noticeOid : Byt := [49, 46, 51, 46, 54, 46, 49, 46, 52, 46, 49, 46, 49, 52, 54, 54, 46, 50, 48, 48, 51, 54]
def noticeM (code : Int) (text : Byt) : Msg := { Msg.zero with op := 24, code := code, text := text, oid := noticeOid }
theorem cm_Notice (code : Int) (text : Byt) : Pure prog 29 [.int .i64 code, .str text] (.agg (noticeM code text).enc) := by
  refine Pure.outA (fun n _ => by simp only [nm, nmL, nmLL, noticeM, Msg.zero, Msg.enc, filV, txV, mdfV, attV, ctlV, encT, List.map_nil, List.append_nil, and_true]) fun S => acalls_of_vc lowm_Notice (by simp) ?_
  simp -implicitDefEqProofs only [Bm_Notice, go_sem, reduceIte, Nat.reduceEqDiff, Nat.reduceAdd, Nat.reduceLeDiff, Nat.reduceLT, decide_true, decide_false, vc_cond2, vcGrps_guard2, vcD_val2, vcD_guard2]
  refine (cm_Result 0 24 code [] text).use ?_
  simp -implicitDefEqProofs only [go_sem, reduceIte, Nat.reduceEqDiff, Nat.reduceAdd, Nat.reduceLeDiff, Nat.reduceLT, decide_true, decide_false, vc_cond2, vcGrps_guard2, vcD_val2, vcD_guard2]
  refine ⟨(((((Ext.refl S).push _).push _).set _ _ (by omega)).set _ _ (by omega)).set _ _ (by omega), .inl ⟨_, rfl, ?_⟩⟩
  exact Wk.refl _
end Go.Proofs.YtajbeippbabhhaaGreatDoor.Eng

namespace Go.Proofs.YtajbeippbabhhaaGreatDoor.Eng
open Go Go.Proofs.Tryz

/-! ## ContainsFunc over changes and controls -/
theorem mdfV_eq (l : List Mdf) (x : List (List AV)) : mdfV l x = .sl 3 (l.map Mdf.enc ++ x) l.length := rfl
theorem ctlV_eq (l : List Ctl) (x : List (List AV)) : ctlV l x = .sl 4 (l.map Ctl.enc ++ x) l.length := rfl
theorem map_take_app {α : Type} (f : α → List AV) (l : List α) (x : List (List AV)) : (l.map f ++ x).take l.length = l.map f := by
  rw [show l.length = (l.map f).length by simp]; exact List.take_left ..
theorem map_at_app {α : Type} (f : α → List AV) {l : List α} (x : List (List AV)) {i : Nat} {k : α} (h : l[i]? = some k) : (l.map f ++ x)[i]? = some (f k) := by
  have hi := (List.getElem?_eq_some_iff.1 h).1
  rw [List.getElem?_append_left (by simpa using hi), List.getElem?_map, h]; rfl
theorem Mdf.take3 (c : Mdf) : c.enc.take 3 = c.enc := rfl
theorem Mdf.len3 (c : Mdf) : c.enc.length = 3 := rfl
theorem Ctl.take4 (c : Ctl) : c.enc.take 4 = c.enc := rfl
theorem Ctl.len4 (c : Ctl) : c.enc.length = 4 := rfl
def idxP {α : Type} (p : α → Bool) : List α → Nat → Int
  | [], _ => -1
  | a :: l, i => if p a = true then (i : Int) else idxP p l (i + 1)
theorem idxP_ge {α : Type} (p : α → Bool) : ∀ (l : List α) (i : Nat), (idxP p l i ≥ 0) ↔ l.any p = true
  | [], i => by simp [idxP]
  | a :: l, i => by
    unfold idxP
    by_cases h : p a = true
    · simp [h]
    · rw [if_neg h, idxP_ge p l (i + 1)]
      simp [h]

theorem cs_indexFM (l : List Mdf) (x : List (List AV)) (f : FuncId) (p : Mdf → Bool) (hl : l.length ≤ maxB) (hb : hasBody prog f = true) (hp : ∀ c ∈ l, Pure prog f [.agg c.enc] (.bool (p c))) :
    Pure prog 269 [mdfV l x, .fn (.func f) []] (.int .i64 (idxP p l 0)) := by
  refine Pure.of (fun _ _ => by simp only [nm]) fun S => acalls_of_vc lows_indexFM (by simp) ?_
  unfold maxB at hl
  rw [mdfV_eq]
  simp -implicitDefEqProofs only [Bs_indexFM, map_take_app, List.length_map, go_sem, reduceIte, Nat.reduceEqDiff, Nat.reduceAdd, Nat.reduceLeDiff, Nat.reduceLT, decide_true, decide_false, vc_cond2, vcGrps_guard2, vcD_val2, vcD_guard2]
  intro _
  refine vc_loop (fun n fr S' => ∃ i, i + n = l.length ∧ fr 0 = .sl 3 (l.map Mdf.enc ++ x) l.length ∧ fr 1 = .fn (.func f) [] ∧ fr 7 = .int .i64 l.length ∧ fr 8 = .int .i64 i ∧ S' = S ∧ idxP p (l.drop i) i = idxP p l 0) l.length
    ⟨0, by simp, rfl, rfl, rfl, rfl, rfl, rfl⟩ ?_
  rintro n fr S' ⟨i, hin, f0, f1, f7, f8, rfl, hd⟩
  by_cases hlt : i < l.length
  · obtain ⟨k, hk⟩ : ∃ k, l[i]? = some k := ⟨_, List.getElem?_eq_getElem hlt⟩
    have hat := map_at_app Mdf.enc x hk
    have h0 : (0 : Int) ≤ i := by omega
    have hlt' : (i : Int) < l.length := by omega
    have hi1 : IntKind.i64.wrap ((i : Int) + 1) = i + 1 := w64 _ (by omega) (by omega)
    rw [dropC hk] at hd
    rw [idxP] at hd
    simp -implicitDefEqProofs only [f0, f1, f7, f8, hlt, hlt', h0, hat, hi1, hb, Mdf.take3, Mdf.len3, decide_true, List.append_nil, go_sem, reduceIte, Nat.reduceEqDiff, Nat.reduceAdd, Nat.reduceLeDiff, Nat.reduceLT, decide_true, decide_false, vc_cond2, vcGrps_guard2, vcD_val2, vcD_guard2]
    refine (hp k (List.mem_of_getElem? hk)).use ?_
    cases hpk : p k with
    | true =>
      rw [if_pos hpk] at hd
      simp -implicitDefEqProofs only [f0, f1, f7, f8, go_sem, reduceIte, Nat.reduceEqDiff, Nat.reduceAdd, Nat.reduceLeDiff, Nat.reduceLT, decide_true, decide_false, vc_cond2, vcGrps_guard2, vcD_val2, vcD_guard2]
      rw [← hd]; exact ⟨rfl, Ext.refl _⟩
    | false =>
      rw [if_neg (by simp [hpk])] at hd
      simp -implicitDefEqProofs only [f0, f1, f7, f8, hi1, go_sem, reduceIte, Nat.reduceEqDiff, Nat.reduceAdd, Nat.reduceLeDiff, Nat.reduceLT, decide_true, decide_false, vc_cond2, vcGrps_guard2, vcD_val2, vcD_guard2]
      exact ⟨n - 1, by omega, i + 1, by omega, by simp, hd⟩
  · have hlt' : ¬ (i : Int) < l.length := by omega
    have hi : i = l.length := by omega
    rw [hi, List.drop_length] at hd
    simp only [idxP] at hd
    simp -implicitDefEqProofs only [f0, f1, f7, f8, hlt', decide_false, go_sem, reduceIte, Nat.reduceEqDiff, Nat.reduceAdd, Nat.reduceLeDiff, Nat.reduceLT, decide_true, decide_false, vc_cond2, vcGrps_guard2, vcD_val2, vcD_guard2]
    rw [← hd]; exact ⟨rfl, Ext.refl _⟩
theorem cs_containsFM (l : List Mdf) (x : List (List AV)) (f : FuncId) (p : Mdf → Bool) (hl : l.length ≤ maxB) (hb : hasBody prog f = true) (hp : ∀ c ∈ l, Pure prog f [.agg c.enc] (.bool (p c))) :
    Pure prog 180 [mdfV l x, .fn (.func f) []] (.bool (l.any p)) := by
  refine Pure.of (fun _ _ => by simp only [nm]) fun S => acalls_of_vc lows_containsFM (by simp) ?_
  simp -implicitDefEqProofs only [Bs_containsFM, go_sem, reduceIte, Nat.reduceEqDiff, Nat.reduceAdd, Nat.reduceLeDiff, Nat.reduceLT, decide_true, decide_false, vc_cond2, vcGrps_guard2, vcD_val2, vcD_guard2]
  refine (cs_indexFM l x f p hl hb hp).use ?_
  simp -implicitDefEqProofs only [idxP_ge, Bool.decide_eq_true, go_sem, reduceIte, Nat.reduceEqDiff, Nat.reduceAdd, Nat.reduceLeDiff, Nat.reduceLT, decide_true, decide_false, vc_cond2, vcGrps_guard2, vcD_val2, vcD_guard2]
  exact Ext.refl _

theorem cs_indexFC (l : List Ctl) (x : List (List AV)) (f : FuncId) (p : Ctl → Bool) (hl : l.length ≤ maxB) (hb : hasBody prog f = true) (hp : ∀ c ∈ l, Pure prog f [.agg c.enc] (.bool (p c))) :
    Pure prog 183 [ctlV l x, .fn (.func f) []] (.int .i64 (idxP p l 0)) := by
  refine Pure.of (fun _ _ => by simp only [nm]) fun S => acalls_of_vc lows_indexFC (by simp) ?_
  unfold maxB at hl
  rw [ctlV_eq]
  simp -implicitDefEqProofs only [Bs_indexFC, map_take_app, List.length_map, go_sem, reduceIte, Nat.reduceEqDiff, Nat.reduceAdd, Nat.reduceLeDiff, Nat.reduceLT, decide_true, decide_false, vc_cond2, vcGrps_guard2, vcD_val2, vcD_guard2]
  intro _
  refine vc_loop (fun n fr S' => ∃ i, i + n = l.length ∧ fr 0 = .sl 4 (l.map Ctl.enc ++ x) l.length ∧ fr 1 = .fn (.func f) [] ∧ fr 7 = .int .i64 l.length ∧ fr 8 = .int .i64 i ∧ S' = S ∧ idxP p (l.drop i) i = idxP p l 0) l.length
    ⟨0, by simp, rfl, rfl, rfl, rfl, rfl, rfl⟩ ?_
  rintro n fr S' ⟨i, hin, f0, f1, f7, f8, rfl, hd⟩
  by_cases hlt : i < l.length
  · obtain ⟨k, hk⟩ : ∃ k, l[i]? = some k := ⟨_, List.getElem?_eq_getElem hlt⟩
    have hat := map_at_app Ctl.enc x hk
    have h0 : (0 : Int) ≤ i := by omega
    have hlt' : (i : Int) < l.length := by omega
    have hi1 : IntKind.i64.wrap ((i : Int) + 1) = i + 1 := w64 _ (by omega) (by omega)
    rw [dropC hk] at hd
    rw [idxP] at hd
    simp -implicitDefEqProofs only [f0, f1, f7, f8, hlt, hlt', h0, hat, hi1, hb, Ctl.take4, Ctl.len4, decide_true, List.append_nil, go_sem, reduceIte, Nat.reduceEqDiff, Nat.reduceAdd, Nat.reduceLeDiff, Nat.reduceLT, decide_true, decide_false, vc_cond2, vcGrps_guard2, vcD_val2, vcD_guard2]
    refine (hp k (List.mem_of_getElem? hk)).use ?_
    cases hpk : p k with
    | true =>
      rw [if_pos hpk] at hd
      simp -implicitDefEqProofs only [f0, f1, f7, f8, go_sem, reduceIte, Nat.reduceEqDiff, Nat.reduceAdd, Nat.reduceLeDiff, Nat.reduceLT, decide_true, decide_false, vc_cond2, vcGrps_guard2, vcD_val2, vcD_guard2]
      rw [← hd]; exact ⟨rfl, Ext.refl _⟩
    | false =>
      rw [if_neg (by simp [hpk])] at hd
      simp -implicitDefEqProofs only [f0, f1, f7, f8, hi1, go_sem, reduceIte, Nat.reduceEqDiff, Nat.reduceAdd, Nat.reduceLeDiff, Nat.reduceLT, decide_true, decide_false, vc_cond2, vcGrps_guard2, vcD_val2, vcD_guard2]
      exact ⟨n - 1, by omega, i + 1, by omega, by simp, hd⟩
  · have hlt' : ¬ (i : Int) < l.length := by omega
    have hi : i = l.length := by omega
    rw [hi, List.drop_length] at hd
    simp only [idxP] at hd
    simp -implicitDefEqProofs only [f0, f1, f7, f8, hlt', decide_false, go_sem, reduceIte, Nat.reduceEqDiff, Nat.reduceAdd, Nat.reduceLeDiff, Nat.reduceLT, decide_true, decide_false, vc_cond2, vcGrps_guard2, vcD_val2, vcD_guard2]
    rw [← hd]; exact ⟨rfl, Ext.refl _⟩
theorem cs_containsFC (l : List Ctl) (x : List (List AV)) (f : FuncId) (p : Ctl → Bool) (hl : l.length ≤ maxB) (hb : hasBody prog f = true) (hp : ∀ c ∈ l, Pure prog f [.agg c.enc] (.bool (p c))) :
    Pure prog 46 [ctlV l x, .fn (.func f) []] (.bool (l.any p)) := by
  refine Pure.of (fun _ _ => by simp only [nm]) fun S => acalls_of_vc lows_containsFC (by simp) ?_
  simp -implicitDefEqProofs only [Bs_containsFC, go_sem, reduceIte, Nat.reduceEqDiff, Nat.reduceAdd, Nat.reduceLeDiff, Nat.reduceLT, decide_true, decide_false, vc_cond2, vcGrps_guard2, vcD_val2, vcD_guard2]
  refine (cs_indexFC l x f p hl hb hp).use ?_
  simp -implicitDefEqProofs only [idxP_ge, Bool.decide_eq_true, go_sem, reduceIte, Nat.reduceEqDiff, Nat.reduceAdd, Nat.reduceLeDiff, Nat.reduceLT, decide_true, decide_false, vc_cond2, vcGrps_guard2, vcD_val2, vcD_guard2]
  exact Ext.refl _

def inR (n most : Int) : Bool := decide (0 ≤ n ∧ n ≤ most)
theorem cm_bare1 (c : Mdf) : Pure prog 181 [.agg c.enc] (.bool (!inR c.op 2)) := by
  refine Pure.of (fun _ _ => by simp only [nm]) fun S => acalls_of_vc lowm_bare_1 (by simp) ?_
  have hx := (Ext.refl S).push
  simp -implicitDefEqProofs only [Bm_bare_1, Mdf.enc, go_sem, reduceIte, Nat.reduceEqDiff, Nat.reduceAdd, Nat.reduceLeDiff, Nat.reduceLT, decide_true, decide_false, vc_cond2, vcGrps_guard2, vcD_val2, vcD_guard2]
  refine (cm_inRange c.op 2).use ?_
  simp -implicitDefEqProofs only [inR, go_sem, reduceIte, Nat.reduceEqDiff, Nat.reduceAdd, Nat.reduceLeDiff, Nat.reduceLT, decide_true, decide_false, vc_cond2, vcGrps_guard2, vcD_val2, vcD_guard2]
  exact hx _
def ctlBad (c : Ctl) : Bool := !c.has && decide (c.value ≠ [])
theorem cm_Valid1 (c : Ctl) : Pure prog 47 [.agg c.enc] (.bool (ctlBad c)) := by
  refine Pure.of (fun _ _ => by simp only [nm]) fun S => acalls_of_vc lowm_Valid_1 (by simp) ?_
  have hx := (Ext.refl S).push
  unfold ctlBad
  cases h : c.has <;> simp -implicitDefEqProofs only [Bm_Valid_1, Ctl.enc, h, go_sem, reduceIte, Nat.reduceEqDiff, Nat.reduceAdd, Nat.reduceLeDiff, Nat.reduceLT, decide_true, decide_false, vc_cond2, vcGrps_guard2, vcD_val2, vcD_guard2] <;> exact ⟨by simp, hx _⟩
end Go.Proofs.YtajbeippbabhhaaGreatDoor.Eng
