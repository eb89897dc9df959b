import Derived.Still
import Derived.Test.YtmlllckecalaaaaProg
import Derived.Test.YtmlllckecalaaaaB9cabc30f
set_option linter.unusedVariables false
set_option linter.unusedSimpArgs false
namespace Go.Proofs.Ytmlllckecalaaaa.Eng
open Go

section
variable {P : Program} {n : Nat} {ops : Array Oper}

theorem lowerEach_spec : ∀ (os : List Oper) (xs : List (Option Nat × Option (Nat × Bool) × LOp)), lowerEach P n ops os = some xs →
    xs.length = os.length ∧ ∀ (i : Nat) (o : Oper), os[i]? = some o → ∃ g lo, xs[i]? = some (o.dst, g, lo) ∧ lowerG n ops o.guard = some g ∧ lowerOp P o.op = some lo ∧ dstOk n o.dst = true
  | [], xs, h => by simp only [lowerEach, Option.some.injEq] at h; subst h; exact ⟨rfl, fun i o h => by simp at h⟩
  | o :: os, xs, h => by
    simp only [lowerEach] at h
    split at h
    · rename_i g lo l h1 h2 h3
      split at h
      · rename_i hd
        cases h
        obtain ⟨a1, a2⟩ := lowerEach_spec os l h3
        refine ⟨by simp [a1], fun i o' ho => ?_⟩
        cases i with
        | zero => simp at ho; subst ho; exact ⟨g, lo, by simp, h1, h2, hd⟩
        | succ i => simp only [List.getElem?_cons_succ] at ho ⊢; exact a2 i o' ho
      · cases h
    · cases h

theorem mkD_spec (all : List Oper) (los : List LOp) : ∀ (os : List Oper) (xs : List (Option Nat × Option (Nat × Bool) × LOp)) (k : Nat), xs.length = os.length →
    (mkD all los k os xs).length = os.length ∧ ∀ (i : Nat) (x : Option Nat × Option (Nat × Bool) × LOp), xs[i]? = some x → ∃ d, (mkD all los k os xs)[i]? = some d ∧ d.dst = x.1 ∧ d.guard = x.2.1 ∧ d.op = x.2.2
  | [], [], k, _ => by simp [mkD]
  | [], _ :: _, k, h => by simp at h
  | _ :: _, [], k, h => by simp at h
  | o :: os, (d, g, lo) :: xs, k, h => by
    obtain ⟨a1, a2⟩ := mkD_spec all los os xs (k + 1) (by simpa using h)
    simp only [mkD, List.length_cons]
    refine ⟨by rw [a1], fun i x hx => ?_⟩
    cases i with
    | zero => simp at hx; subst hx; exact ⟨_, by simp; rfl, rfl, rfl, rfl⟩
    | succ i => simp only [List.getElem?_cons_succ] at hx ⊢; exact a2 i x hx

/-- What the check says. -/
structure Plan (P : Program) (n : Nat) (ops : Array Oper) (l : List DOp) : Prop where
  len : l.length = ops.size
  at' : ∀ (i : Nat) (o : Oper), ops[i]? = some o → ∃ d : DOp, l[i]? = some d ∧ d.dst = o.dst ∧ lowerG n ops o.guard = some d.guard ∧ lowerOp P o.op = some d.op ∧ dstOk n o.dst = true
  before : ∀ (i : Nat) (o : Oper), ops[i]? = some o → ∀ j ∈ predsOf o, j < i
  once : ∀ (i : Nat) (d : DOp), l[i]? = some d → ∀ t, d.dst = some t → ∀ (j : Nat) (d' : DOp), l[j]? = some d' → d'.dst = some t → j = i
  uses : ∀ (i : Nat) (d : DOp) (o : Oper), l[i]? = some d → ops[i]? = some o → ∀ t, (t ∈ Eng.uses d.op ∨ ∃ want, d.guard = some (t, want)) → ∀ (j : Nat) (d' : DOp), l[j]? = some d' → d'.dst = some t → j ∈ predsOf o
  effs : ∀ (i : Nat) (d : DOp) (o : Oper), l[i]? = some d → ops[i]? = some o → d.eff = true → ∀ (e : Nat) (de : DOp), l[e]? = some de → de.eff = true → rank l e < rank l i → e ∈ predsOf o
  back : ∀ (i : Nat) (d : DOp) (o : Oper), l[i]? = some d → ops[i]? = some o → d.eff = false → ∀ (e : Nat) (de : DOp), l[e]? = some de → de.eff = true → rank l e + d.back < rank l i → e ∈ predsOf o
  fwd : ∀ (i : Nat) (d : DOp) (o : Oper), l[i]? = some d → ops[i]? = some o → d.eff = false → ∀ (e : Nat) (de : DOp) (oe : Oper), l[e]? = some de → ops[e]? = some oe → de.eff = true → rank l i + d.fwd ≤ rank l e → i ∈ predsOf oe

theorem plan_of {l : List DOp} (h : lowerD P n ops = some l) : Plan P n ops l := by
  unfold lowerD at h
  split at h
  · rename_i xs hx
    obtain ⟨a1, a2⟩ := lowerEach_spec _ _ hx
    obtain ⟨b1, b2⟩ := mkD_spec ops.toList (xs.map (·.2.2)) ops.toList xs 0 a1
    split at h
    · rename_i hok
      cases h
      generalize hl : mkD ops.toList (xs.map (·.2.2)) 0 ops.toList xs = l at *
      have hlen : l.length = ops.size := by rw [b1]; simp
      have key := hok
      unfold drawOk at key
      simp only [List.all_eq_true, List.mem_range] at key
      have atl : ∀ i d, l[i]? = some d → i < l.length := fun i d h => get_lt h
      have opsl : ∀ (i : Nat) (o : Oper), ops[i]? = some o → ops.toList[i]? = some o := fun i o h => (by rw [Array.getElem?_toList]; exact h)
      have K : ∀ i d o, l[i]? = some d → ops[i]? = some o → _ := fun i d o hd ho => by
        have := key i (atl i d hd)
        rw [hd, opsl i o ho] at this
        simp only [Bool.and_eq_true, List.all_eq_true, List.mem_range, decide_eq_true_eq] at this
        exact this
      refine ⟨hlen, fun i o ho => ?_, fun i o ho j hj => ?_, fun i d hd t ht j d' hd' ht' => ?_, fun i d o hd ho t ht j d' hd' ht' => ?_, fun i d o hd ho hdeff e de hde heff hr => ?_, fun i d o hd ho hdeff e de hde heff hr => ?_, fun i d o hd ho hdeff e de oe hde hoe heff hr => ?_⟩
      · obtain ⟨g, lo, c1, c2, c3, c4⟩ := a2 i o (opsl i o ho)
        obtain ⟨d, d1, d2, d3, d4⟩ := b2 i _ c1
        exact ⟨d, d1, d2, by rw [d3]; exact c2, by rw [d4]; exact c3, c4⟩
      · obtain ⟨g, lo, c1, c2, c3, c4⟩ := a2 i o (opsl i o ho)
        obtain ⟨d, d1, d2, d3, d4⟩ := b2 i _ c1
        exact (K i d o d1 ho).1.1.1 j hj
      · obtain ⟨o, ho⟩ : ∃ o, ops[i]? = some o := ⟨_, Array.getElem?_eq_getElem (by rw [← hlen]; exact atl i d hd)⟩
        have := (K i d o hd ho).1.1.2
        rw [ht] at this
        simp only [List.all_eq_true, List.mem_range] at this
        have := this j (atl j d' hd')
        rw [hd'] at this
        simp only [Bool.or_eq_true, decide_eq_true_eq] at this
        rcases this with h | h
        · exact absurd ht' h
        · exact h
      · have := (K i d o hd ho).1.2 t (by
          rcases ht with ht | ⟨want, ht⟩
          · split
            · exact List.mem_cons_of_mem _ ht
            · exact ht
          · rw [ht]; exact List.mem_cons_self ..) j (atl j d' hd')
        rw [hd'] at this
        simp only [Bool.or_eq_true, decide_eq_true_eq, List.contains_iff_mem] at this
        rcases this with h | h
        · exact absurd ht' h
        · exact h
      · obtain ⟨oe, hoe⟩ : ∃ o, ops[e]? = some o := ⟨_, Array.getElem?_eq_getElem (by rw [← hlen]; exact atl e de hde)⟩
        have := (K i d o hd ho).2 e (atl e de hde)
        rw [hde, opsl e oe hoe] at this
        simp only [heff, hdeff, if_true, Bool.not_true, Bool.false_or, Bool.or_eq_true, Bool.not_eq_true', decide_eq_false_iff_not, List.contains_iff_mem] at this
        rcases this with h | h
        · exact absurd hr h
        · exact h
      · obtain ⟨oe, hoe⟩ : ∃ o, ops[e]? = some o := ⟨_, Array.getElem?_eq_getElem (by rw [← hlen]; exact atl e de hde)⟩
        have := (K i d o hd ho).2 e (atl e de hde)
        rw [hde, opsl e oe hoe] at this
        simp only [heff, hdeff, Bool.false_eq_true, if_false, Bool.not_true, Bool.false_or, Bool.and_eq_true, Bool.or_eq_true, Bool.not_eq_true', decide_eq_false_iff_not, List.contains_iff_mem] at this
        rcases this.1 with h | h
        · exact absurd hr h
        · exact h
      · have := (K i d o hd ho).2 e (atl e de hde)
        rw [hde, opsl e oe hoe] at this
        simp only [heff, hdeff, Bool.false_eq_true, if_false, Bool.not_true, Bool.false_or, Bool.and_eq_true, Bool.or_eq_true, Bool.not_eq_true', decide_eq_false_iff_not, List.contains_iff_mem] at this
        rcases this.2 with h | h
        · exact absurd hr h
        · exact h
    · cases h
  · cases h
end

theorem rank_at (l : List DOp) (i : Nat) : rank l (i + 1) = rank l i + (match l[i]? with | some d => if d.eff then 1 else 0 | none => 0) := by
  unfold rank
  rw [List.take_add_one]
  cases h : l[i]? with
  | none => simp
  | some d => cases hd : d.eff <;> simp [List.filter_append, hd]
theorem rank_mono (l : List DOp) {i j : Nat} (h : i ≤ j) : rank l i ≤ rank l j := by
  induction h with
  | refl => exact Nat.le_refl _
  | step _ ih => rw [rank_at]; omega
theorem rank_lt (l : List DOp) {i j : Nat} {d : DOp} (hd : l[i]? = some d) (he : d.eff = true) (h : i < j) : rank l i < rank l j := by
  have := rank_mono l (show i + 1 ≤ j from h)
  rw [rank_at, hd] at this
  simp only [he, if_true] at this
  omega
theorem rank_inj (l : List DOp) {i j : Nat} {d d' : DOp} (hd : l[i]? = some d) (he : d.eff = true) (hd' : l[j]? = some d') (he' : d'.eff = true) (h : rank l i = rank l j) : i = j := by
  rcases Nat.lt_trichotomy i j with h1 | h1 | h1
  · have := rank_lt l hd he h1; omega
  · exact h1
  · have := rank_lt l hd' he' h1; omega
theorem rank_surj (l : List DOp) : ∀ (j c : Nat), c < rank l j → ∃ e d, e < j ∧ l[e]? = some d ∧ d.eff = true ∧ rank l e = c
  | 0, c, h => by simp [rank] at h
  | j + 1, c, h => by
    rw [rank_at] at h
    by_cases h1 : c < rank l j
    · obtain ⟨e, d, a1, a2⟩ := rank_surj l j c h1
      exact ⟨e, d, by omega, a2⟩
    · split at h
      · rename_i d hd
        split at h
        · rename_i he; exact ⟨j, d, by omega, hd, he, by omega⟩
        · omega
      · omega

theorem tidy_of {P : Program} {n : Nat} {ops : Array Oper} {l : List DOp} (h : Plan P n ops l) : tidy l := by
  have opAt : ∀ i d, l[i]? = some d → ∃ o, ops[i]? = some o := fun i d hd => ⟨_, Array.getElem?_eq_getElem (by rw [← h.len]; exact get_lt hd)⟩
  have key : ∀ (s : List DOp) (k : Nat), (∀ j, s[j]? = l[k + j]?) → tidy s := by
    intro s
    induction s with
    | nil => intro k _; simp only [tidy]
    | cons d s ih =>
      intro k hs
      have hd : l[k]? = some d := by simpa using (hs 0).symm
      obtain ⟨o, ho⟩ := opAt k d hd
      have hrest : ∀ x ∈ s, ∃ j, k < j ∧ l[j]? = some x := fun x hx => by
        obtain ⟨j, hj⟩ := List.getElem?_of_mem hx
        exact ⟨k + (j + 1), by omega, by rw [← hs (j + 1)]; simpa using hj⟩
      simp only [tidy]
      refine ⟨fun t ht => ⟨fun e => ?_, fun x hx e => ?_⟩, fun g want hg => ⟨fun e => ?_, fun x hx e => ?_⟩, fun t ht x hx e => ?_, ih (k + 1) fun j => by rw [show k + 1 + j = k + (j + 1) by omega, ← hs (j + 1)]; simp⟩
      · have := h.before k o ho k (h.uses k d o hd ho t (.inl ht) k d hd e); omega
      · obtain ⟨j, hj, hx⟩ := hrest x hx
        have := h.before k o ho j (h.uses k d o hd ho t (.inl ht) j x hx e); omega
      · have := h.before k o ho k (h.uses k d o hd ho g (.inr ⟨want, hg⟩) k d hd e); omega
      · obtain ⟨j, hj, hx⟩ := hrest x hx
        have := h.before k o ho j (h.uses k d o hd ho g (.inr ⟨want, hg⟩) j x hx e); omega
      · obtain ⟨j, hj, hx⟩ := hrest x hx
        have := h.once k d hd t ht j x hx e; omega
  exact key l 0 fun j => by simp
end Go.Proofs.Ytmlllckecalaaaa.Eng

namespace Go.Proofs.Ytmlllckecalaaaa.Eng
open Go

section
variable {P : Program} {n : Nat} {ds : List Deferred} {ops : Array Oper} {l : List DOp} {μ : Mu} {S : Store} {w : World} {fr frE : Fr} {H : Nat → Store} {m : Nat} {tab : List Entry}

structure Mid (n : Nat) (ds : List Deferred) (ops : Array Oper) (l : List DOp) (μ : Mu) (S : Store) (w : World) (fr frE : Fr) (H : Nat → Store) (m : Nat) (listed : Array Bool) (a : Act) (w' : World) (fr' : Fr) (c : Nat) (μ' : Mu) : Prop where
  size : listed.size = ops.size
  down : ∀ (i : Nat) (o : Oper), ops[i]? = some o → listed.getD i true = true → ∀ j ∈ predsOf o, listed.getD j true = true
  on : ∀ (i : Nat) (d : DOp) (t : Nat), l[i]? = some d → d.dst = some t → fr' t = if listed.getD i true then frE t else fr t
  off : ∀ t, (∀ (i : Nat) (d : DOp), l[i]? = some d → d.dst ≠ some t) → fr' t = fr t
  count : ∀ (e : Nat) (de : DOp), l[e]? = some de → de.eff = true → (listed.getD e true = true ↔ rank l e < c)
  le : c ≤ m
  repr : Repr μ' (H c) w'
  keep : Keeps μ (Mut μ S) w μ' (Mut μ' (H c)) w'
  fr : FrRep μ' (Mut μ' (H c)) w' fr' a
  tmps : a.tmps.size = n
  defers : a.defers = ds

theorem getD_lt {listed : Array Bool} {i : Nat} (h : listed.getD i true = false) : i < listed.size := by
  rcases Nat.lt_or_ge i listed.size with h' | h'
  · exact h'
  · simp [Array.getD_eq_getD_getElem?, Array.getElem?_eq_none h'] at h

theorem getD_set_self {listed : Array Bool} {i : Nat} (h : i < listed.size) : (listed.setIfInBounds i true).getD i true = true := by
  simp [Array.getD_eq_getD_getElem?, h]
theorem getD_set_other {listed : Array Bool} {i j : Nat} (h : i ≠ j) : (listed.setIfInBounds i true).getD j true = listed.getD j true := by
  simp [Array.getD_eq_getD_getElem?, h]

theorem Mid.step {listed : Array Bool} {a : Act} {w' : World} {fr' : Fr} {c : Nat} {μ' : Mu} (plan : Plan P n ops l) (hm : Mid n ds ops l μ S w fr frE H m listed a w' fr' c μ')
    {i : Nat} {o : Oper} {d : DOp} (ho : ops[i]? = some o) (hd : l[i]? = some d) (hdst : d.dst = o.dst) (hok : dstOk n o.dst = true) (hun : listed.getD i true = false)
    (hpre : ∀ j ∈ predsOf o, listed.getD j true = true) {v : AV} {x : Value} {c' : Nat} {μ'' : Mu} {w'' : World}
    (hv : ∀ t, d.dst = some t → frE t = v) (hc : c' = if d.eff then c + 1 else c) (hrank : d.eff = true → rank l i = c ∧ c + 1 ≤ m)
    (hr : Repr μ'' (H c') w'') (hk : Keeps μ' (Mut μ' (H c)) w' μ'' (Mut μ'' (H c')) w'') (hx : Rep μ'' (Mut μ'' (H c')) w'' v x) :
    Mid n ds ops l μ S w fr frE H m (listed.setIfInBounds i true) (a.put o.dst x) w'' (putF fr' o.dst v) c' μ'' := by
  have hi : i < listed.size := getD_lt hun
  refine ⟨by simp [hm.size], fun j oj hoj hl k hkp => ?_, fun j dj t hdj ht => ?_, fun t ht => ?_, fun e de hde he => ?_, ?_, hr, hm.keep.trans hk, (hm.fr.keep hk).put hok hm.tmps hx, by rw [put_size]; exact hm.tmps, by rw [put_defers]; exact hm.defers⟩
  · by_cases e : i = k
    · subst e; exact getD_set_self hi
    · rw [getD_set_other e]
      by_cases e2 : i = j
      · subst e2; rw [ho] at hoj; cases hoj; exact hpre k hkp
      · rw [getD_set_other e2] at hl; exact hm.down j oj hoj hl k hkp
  · by_cases e : i = j
    · subst e
      rw [hd] at hdj; cases hdj
      rw [getD_set_self hi, if_pos rfl, ← hdst, ht]
      simp only [putF, upd_same]
      exact (hv t ht).symm
    · rw [getD_set_other e, putF_ne fun u hu eu => ?_]
      · exact hm.on j dj t hdj ht
      · subst eu; exact e (plan.once j dj hdj t ht i d hd (by rw [hdst, hu]))
  · rw [putF_ne fun u hu eu => ?_]
    · exact hm.off t ht
    · subst eu; exact ht i d hd (by rw [hdst, hu])
  · by_cases e1 : i = e
    · subst e1
      rw [hd] at hde; cases hde
      rw [getD_set_self hi]
      simp only [he, if_true] at hc
      have := (hrank he).1
      constructor
      · intro _; omega
      · intro _; rfl
    · rw [getD_set_other e1, hm.count e de hde he]
      cases hde' : d.eff with
      | false => simp only [hde', Bool.false_eq_true, if_false] at hc; rw [hc]
      | true =>
        simp only [hde', if_true] at hc
        have h1 := (hrank hde').1
        have : rank l e ≠ rank l i := fun h => e1 (rank_inj l hd hde' hde he h.symm)
        constructor <;> intro _ <;> omega
  · cases hde' : d.eff with
    | false => simp only [hde', Bool.false_eq_true, if_false] at hc; rw [hc]; exact hm.le
    | true => simp only [hde', if_true] at hc; rw [hc]; exact (hrank hde').2

theorem mem_preds {o : Oper} {j : Nat} : j ∈ predsOf o ↔ ∃ e ∈ o.after, Region.binds .any e = true ∧ e.on = j := by
  unfold predsOf
  simp only [List.mem_filterMap, Array.mem_toList_iff]
  constructor
  · rintro ⟨e, he, h⟩
    split at h
    · rename_i hb; cases h; exact ⟨e, he, hb, rfl⟩
    · cases h
  · rintro ⟨e, he, hb, rfl⟩
    exact ⟨e, he, by rw [if_pos hb]⟩

def unl (k : Nat) (listed : Array Bool) : Nat := ((List.range k).filter fun i => !listed.getD i true).length

theorem unl_set {listed : Array Bool} : ∀ (k i : Nat), listed.getD i true = false → (i < k → unl k (listed.setIfInBounds i true) + 1 = unl k listed) ∧ (k ≤ i → unl k (listed.setIfInBounds i true) = unl k listed)
  | 0, i, h => by simp [unl]
  | k + 1, i, h => by
    have hi := getD_lt h
    have e : ∀ (L : Array Bool), unl (k + 1) L = unl k L + if L.getD k true then 0 else 1 := fun L => by
      simp only [unl, List.range_succ, List.filter_append, List.length_append]
      cases hL : L.getD k true <;> (simp only [List.filter_cons, hL, List.filter_nil]; rfl)
    obtain ⟨h1, h2⟩ := unl_set k i h
    rw [e, e]
    constructor
    · intro hk
      by_cases ek : i = k
      · subst ek
        rw [getD_set_self hi, h2 (Nat.le_refl _), h]
        simp
      · rw [getD_set_other ek, ← h1 (by omega)]; omega
    · intro hk
      rw [getD_set_other (by omega), h2 (by omega)]

theorem all_of_ready {listed : Array Bool} (plan : Plan P n ops l) (hs : listed.size = ops.size) (h : Region.ready .any ops listed = []) : ∀ i, listed.getD i true = true := by
  intro i
  induction i using Nat.strongRecOn with
  | _ i ih =>
    cases hl : listed.getD i true with
    | true => rfl
    | false =>
      have hi := getD_lt hl
      obtain ⟨o, ho⟩ : ∃ o, ops[i]? = some o := ⟨_, Array.getElem?_eq_getElem (by omega)⟩
      have : i ∈ Region.ready .any ops listed := by
        rw [mem_ready]
        refine ⟨hl, o, ho, fun e he hb => ?_⟩
        have hj := plan.before i o ho e.on (mem_preds.2 ⟨e, he, hb, rfl⟩)
        have := ih e.on hj
        have hlt : e.on < listed.size := by omega
        simpa [Array.getD_eq_getD_getElem?, hlt] using this
      rw [h] at this
      cases this

theorem any_sound {K : Fr → Store → Prop} (plan : Plan P n ops l) (htab : tab.length = l.length) (hK : K frE (H m)) (hm : m = rank l l.length) (hag : Agree l fr frE)
    (hf : ∀ (p : Nat) (d : DOp) (e : Entry), l[p]? = some d → tab[p]? = some e → Fact P frE H m d e (rank l p)) :
    ∀ (fuel : Nat) (listed : Array Bool) (a : Act) (w' : World) (fr' : Fr) (c : Nat) (μ' : Mu), Mid n ds ops l μ S w fr frE H m listed a w' fr' c μ' → unl ops.size listed ≤ fuel →
      wpAny P .any ops (Post n ds μ (Mut μ S) w fun x => match x with | .normal => K | _ => fun _ _ => False) fuel listed a w' := by
  have fin : ∀ (listed : Array Bool) (a : Act) (w' : World) (fr' : Fr) (c : Nat) (μ' : Mu), Mid n ds ops l μ S w fr frE H m listed a w' fr' c μ' → (∀ i, listed.getD i true = true) →
      Post n ds μ (Mut μ S) w (fun x => match x with | .normal => K | _ => fun _ _ => False) .normal a w' := by
    intro listed a w' fr' c μ' hM hall
    have e1 : fr' = frE := by
      funext t
      by_cases h : ∃ (i : Nat) (d : DOp), l[i]? = some d ∧ d.dst = some t
      · obtain ⟨i, d, hd, ht⟩ := h
        rw [hM.on i d t hd ht, hall i, if_pos rfl]
      · have h' : ∀ (i : Nat) (d : DOp), l[i]? = some d → d.dst ≠ some t := fun i d hd ht => h ⟨i, d, hd, ht⟩
        rw [hM.off t h', hag t fun x hx => by obtain ⟨i, hi⟩ := List.getElem?_of_mem hx; exact h' i x hi]
    have e2 : c = m := by
      rcases Nat.lt_or_ge c m with h | h
      · rw [hm] at h
        obtain ⟨e, de, _, hde, he, hr⟩ := rank_surj l l.length c h
        have := (hM.count e de hde he).1 (hall e)
        omega
      · have := hM.le; omega
    subst e1; subst e2
    exact ⟨μ', H c, fr', .normal, hK, ⟨hM.repr, hM.fr, hM.tmps, hM.defers⟩, hM.keep, trivial⟩
  intro fuel
  induction fuel with
  | zero =>
    intro listed a w' fr' c μ' hM hu
    have hall : ∀ i, listed.getD i true = true := fun i => by
      cases hl : listed.getD i true with
      | true => rfl
      | false =>
        have hi := getD_lt hl
        have := (unl_set ops.size i hl).1 (by rw [← hM.size]; exact hi)
        omega
    refine ⟨?_, fin _ _ _ _ _ _ hM hall⟩
    cases hr : Region.ready .any ops listed with
    | nil => rfl
    | cons i r =>
      have : i ∈ Region.ready .any ops listed := by rw [hr]; exact List.mem_cons_self ..
      rw [mem_ready] at this
      rw [hall i] at this
      cases this.1
  | succ fuel ih =>
    intro listed a w' fr' c μ' hM hu
    refine ⟨fun h => fin _ _ _ _ _ _ hM (all_of_ready plan hM.size h), fun i hi => ?_⟩
    obtain ⟨hun, o, ho, hafter⟩ := mem_ready.1 hi
    obtain ⟨d, hd, hdst, hg, hlo, hok⟩ := plan.at' i o ho
    have hpre : ∀ j ∈ predsOf o, listed.getD j true = true := fun j hj => by
      obtain ⟨e, he, hb, rfl⟩ := mem_preds.1 hj
      have := hafter e he hb
      rcases Nat.lt_or_ge e.on listed.size with h | h
      · simpa [Array.getD_eq_getD_getElem?, h] using this
      · simp [Array.getD_eq_getD_getElem?, Array.getElem?_eq_none h] at this
    obtain ⟨en, hen⟩ : ∃ en, tab[i]? = some en := ⟨_, List.getElem?_eq_getElem (by rw [htab]; exact Eng.get_lt hd)⟩
    have F := hf i d en hd hen
    have hu' : unl ops.size (listed.setIfInBounds i true) ≤ fuel := by
      have := (unl_set ops.size i hun).1 (by rw [← hM.size]; exact getD_lt hun)
      omega
    -- what it uses is what it will be
    have agree1 : ∀ t, (t ∈ uses d.op ∨ ∃ want, d.guard = some (t, want)) → fr' t = frE t := fun t ht => by
      by_cases h : ∃ (j : Nat) (dj : DOp), l[j]? = some dj ∧ dj.dst = some t
      · obtain ⟨j, dj, hdj, hjt⟩ := h
        rw [hM.on j dj t hdj hjt, hpre j (plan.uses i d o hd ho t ht j dj hdj hjt), if_pos rfl]
      · have h' : ∀ (i : Nat) (d : DOp), l[i]? = some d → d.dst ≠ some t := fun i d hd ht => h ⟨i, d, hd, ht⟩
        rw [hM.off t h', hag t fun x hx => by obtain ⟨i, hi⟩ := List.getElem?_of_mem hx; exact h' i x hi]
    have huse : ∀ t ∈ uses d.op, frE t = fr' t := fun t ht => (agree1 t (.inl ht)).symm
    -- is it wanted?
    have hw : Region.wanted o (yielded ops a.tmps) = en.act := by
      rcases F.guard with ⟨h1, h2⟩ | ⟨g, want, h1, h2⟩
      · have hgo : o.guard = none := by
          cases hgg : o.guard with
          | none => rfl
          | some jw =>
            obtain ⟨j, w'⟩ := jw
            rw [hgg, h1] at hg
            simp only [lowerG] at hg
            split at hg
            · split at hg
              · split at hg <;> cases hg
              · cases hg
            · cases hg
        simp [Region.wanted, hgo, h2]
      · rw [h1] at hg
        obtain ⟨j, oj, hgo, hoj, hdj, hsn⟩ := lowerG_sound hg
        have hy := yielded_of (a := a) hoj hdj (by rw [hM.tmps]; exact hsn)
        have hrep := hM.fr g
        rw [agree1 g (.inr ⟨want, h1⟩)] at hrep
        rcases h2 with ⟨b, hb, hact⟩ | ⟨hb, hact⟩
        · rw [hb] at hrep
          simp only [Rep] at hrep
          rw [hrep] at hy
          simp only at hy
          rw [hact]
          simp [Region.wanted, hgo, hy]
        · rw [hb] at hrep
          simp only [Rep] at hrep
          rw [hrep] at hy
          rw [hact]
          simp [Region.wanted, hgo, hy, undef]
    unfold wpOp
    simp only [ho, hw]
    cases hact : en.act with
    | false =>
      simp only [Bool.false_eq_true, if_false]
      obtain ⟨hv, heff⟩ := F.off hact
      have := hM.step plan ho hd hdst hok hun hpre (v := .und) (x := undef) (c' := c) (μ'' := μ') (w'' := w') (fun t ht => by rw [F.dst t ht, hv]) (by rw [heff]; rfl) (fun h => by rw [heff] at h; cases h) hM.repr (Keeps.refl _ _ _) (by simp only [Rep])
      exact ih _ _ _ _ _ _ this hu'
    | true =>
      simp only [if_true]
      refine .inl ?_
      have cont : ∀ c', c' = (if d.eff then c + 1 else c) → (d.eff = true → rank l i = c ∧ c + 1 ≤ m) →
          OpOk P o a μ' (H c) w' (fun u S' => u = en.v ∧ S' = H c') (fun _ _ => False) →
          o.wp P a w' (wpAny P .any ops (Post n ds μ (Mut μ S) w fun x => match x with | .normal => K | _ => fun _ _ => False) fuel (listed.setIfInBounds i true)) (Post n ds μ (Mut μ S) w fun x => match x with | .normal => K | _ => fun _ _ => False) := by
        intro c' hc hrk hok'
        unfold OpOk Oper.wp at hok'
        unfold Oper.wp
        generalize (execOp a.eval o).run P w' = r at hok'
        have next : ∀ a' w'', (∃ μ'' S' v x, (v = en.v ∧ S' = H c') ∧ a' = a.put o.dst x ∧ Repr μ'' S' w'' ∧ Keeps μ' (Mut μ' (H c)) w' μ'' (Mut μ'' S') w'' ∧ Rep μ'' (Mut μ'' S') w'' v x) →
            wpAny P .any ops (Post n ds μ (Mut μ S) w fun x => match x with | .normal => K | _ => fun _ _ => False) fuel (listed.setIfInBounds i true) a' w'' := by
          rintro a' w'' ⟨μ'', S', v, x, ⟨rfl, rfl⟩, rfl, k3, k4, k5⟩
          exact ih _ _ _ _ _ _ (hM.step plan ho hd hdst hok hun hpre F.dst hc hrk k3 k4 k5) hu'
        cases r with
        | ok x w'' =>
          cases x <;> dsimp only [Oper.upon] at hok' ⊢ <;> first
            | exact hok'.elim
            | exact next _ _ hok'
            | (refine Calls.mono hok' fun e w'' he => ?_
               cases e
               · exact next _ _ he
               · obtain ⟨_, _, _, _, h, _⟩ := he; exact h.elim
               · obtain ⟨_, _, _, _, _, _, _, h, _⟩ := he; cases h)
            | (obtain ⟨μ', S', v, x, k1, k2, k3, k4, k5⟩ := hok'
               have := congrArg (fun a : Act => a.defers.length) k2
               simp [put_defers] at this)
            | exact Rows.mono hok' fun v w'' he => next _ _ he
        | halt x w'' => cases x <;> dsimp only [Oper.upon] at hok' ⊢ <;> first | (obtain ⟨_, _, _, _, h, _⟩ := hok'; exact h.elim) | exact hok'.elim
      have mlt : ∀ e de, l[e]? = some de → de.eff = true → rank l e < m := fun e de hde he => by rw [hm]; exact rank_lt l hde he (Eng.get_lt hde)
      cases heff : d.eff with
      | false =>
        have h1 : rank l i ≤ c + d.back := by
          rcases Nat.lt_or_ge (c + d.back) (rank l i) with h | h
          · obtain ⟨e, de, he1, hde, he, hr⟩ := rank_surj l i c (by omega)
            have := (hM.count e de hde he).1 (hpre e (plan.back i d o hd ho heff e de hde he (by omega)))
            omega
          · exact h
        have h2 : c ≤ rank l i + d.fwd := by
          rcases Nat.lt_or_ge (rank l i + d.fwd) c with h | h
          · have hc := hM.le
            obtain ⟨e, de, he1, hde, he, hr⟩ := rank_surj l l.length (rank l i + d.fwd) (by omega)
            obtain ⟨oe, hoe⟩ : ∃ o, ops[e]? = some o := ⟨_, Array.getElem?_eq_getElem (by rw [← plan.len]; exact he1)⟩
            have h3 := (hM.count e de hde he).2 (by omega)
            have h4 := hM.down e oe hoe h3 i (plan.fwd i d o hd ho heff e de oe hde hoe he (by omega))
            rw [hun] at h4; cases h4
          · exact h
        refine cont c (by rw [heff]; rfl) (fun h => by rw [heff] at h; cases h) ?_
        exact says_sound hM.repr hM.fr hlo ((F.says hact heff c h1 h2 hM.le).congr huse)
      | true =>
        have h1 : rank l i = c := by
          have hnl : ¬ rank l i < c := fun h => by
            have := (hM.count i d hd heff).2 h
            rw [hun] at this; cases this
          rcases Nat.lt_or_ge c (rank l i) with h | h
          · obtain ⟨e, de, he1, hde, he, hr⟩ := rank_surj l i c h
            have := (hM.count e de hde he).1 (hpre e (plan.effs i d o hd ho heff e de hde he (by omega)))
            omega
          · omega
        have h2 := mlt i d hd heff
        obtain ⟨out, k1, k2⟩ := F.moves hact heff
        rw [h1] at k1 k2
        refine cont (c + 1) (by rw [heff]; rfl) (fun _ => ⟨h1, by omega⟩) ?_
        rw [stepOp_congr huse] at k1
        exact op_sound hM.repr hM.fr hlo k1 k2

theorem quiet_sound {K : Fr → Store → Prop} {id : Nat} {a : Act} (hmo : P.follows .mixedOrders = true) (hl : lowerD P n ops = some l) (hv : vcD P K l fr S [] []) (hs : St n ds μ S w fr a) :
    (Code.region id ops true).wp P (Post n ds μ (Mut μ S) w fun x => match x with | .normal => K | _ => fun _ _ => False) a w := by
  have plan := plan_of hl
  obtain ⟨tab, H, frE, h1, h2, h3, h4, h5, _⟩ := vcD_table l fr S [] [] 0 (fun _ => S) (tidy_of plan) hv rfl (fun j T h => by simp at h) rfl
  simp only [Nat.zero_add] at h3 h5
  have hH0 : H 0 = S := h2 0 (Nat.le_refl _)
  have hw : World := { w with drawn := w.drawn + 1 }
  obtain ⟨r1, k1⟩ := hs.repr.world (w' := { w with drawn := w.drawn + 1 }) (Nat.le_refl _) (fun _ _ => rfl) rfl rfl rfl
  have hun : ∀ i, i < ops.size → (Array.replicate ops.size false).getD i true = false := fun i hi => by simp [Array.getD_eq_getD_getElem?, hi]
  have mid : Mid n ds ops l μ S w fr frE H (rank l l.length) (Array.replicate ops.size false) a { w with drawn := w.drawn + 1 } fr 0 μ := by
    have atl : ∀ i d, l[i]? = some d → (Array.replicate ops.size false).getD i true = false := fun i d hd => hun i (by rw [← plan.len]; exact Eng.get_lt hd)
    refine ⟨by simp, fun i o ho h => ?_, fun i d t hd ht => ?_, fun _ _ => rfl, fun e de hde he => ?_, Nat.zero_le _, by rw [hH0]; exact r1, by rw [hH0]; exact k1, by rw [hH0]; exact hs.fr.keep k1, hs.size, hs.defers⟩
    · obtain ⟨d, hd, _⟩ := plan.at' i o ho
      rw [atl i d hd] at h; cases h
    · rw [atl i d hd]; rfl
    · rw [atl e de hde]; constructor <;> intro h <;> first | cases h | omega
  refine wp_region_any hmo (any_sound plan h1 h3 rfl h4 h5 _ _ _ _ _ _ _ mid ?_)
  unfold unl
  exact Nat.le_trans (List.length_filter_le _ _) (by simp)
end
end Go.Proofs.Ytmlllckecalaaaa.Eng

namespace Go.Proofs.Ytmlllckecalaaaa.Eng
open Go

theorem Post.mono {n ds μ M w e a w'} {Q Q' : Qx} (hq : ∀ x fr S, Q x fr S → Q' x fr S) (h : Post n ds μ M w Q e a w') : Post n ds μ M w Q' e a w' := by
  obtain ⟨μ', S', fr', x, h1, h2⟩ := h
  exact ⟨μ', S', fr', x, hq _ _ _ h1, h2⟩

theorem Code.wp_mono' {P : Program} {c : Code} {Q Q' : Exit → Act → World → Prop} {a : Act} {w : World} (h : c.wp P Q a w) (hq : ∀ e a w, Q e a w → Q' e a w) : c.wp P Q' a w := wp_mono h hq

section
variable {P : Program} {n : Nat} {ds : List Deferred}

theorem vc_sound : ∀ (c : Code) (lc : LCode) (Q : Qx) (fr : Fr) (S : Store) (μ : Mu) (w : World) (a : Act), lowerC P n c = some lc → vc P lc Q fr S → St n ds μ S w fr a → c.wp P (Post n ds μ (Mut μ S) w Q) a w
  | .skip, lc, Q, fr, S, μ, w, a, hl, hv, hs => by
    simp only [lowerC, Option.some.injEq] at hl; subst hl
    exact wp_skip ⟨μ, S, fr, .normal, hv, hs, Keeps.refl _ _ _, trivial⟩
  | .ret, lc, Q, fr, S, μ, w, a, hl, hv, hs => by
    simp only [lowerC, Option.some.injEq] at hl; subst hl
    exact wp_ret ⟨μ, S, fr, .ret, hv, hs, Keeps.refl _ _ _, trivial⟩
  | .exit id, lc, Q, fr, S, μ, w, a, hl, hv, hs => by
    simp only [lowerC, Option.some.injEq] at hl; subst hl
    exact wp_exit ⟨μ, S, fr, .exit id, hv, hs, Keeps.refl _ _ _, rfl⟩
  | .region id ops draw, lc, Q, fr, S, μ, w, a, hl, hv, hs => by
    cases draw with
    | true =>
      simp only [lowerC] at hl
      split at hl
      · rename_i hmo
        obtain ⟨l, hl', rfl⟩ := opt_map hl
        simp only [vc] at hv
        refine wp_mono (quiet_sound (ds := ds) hmo hl' hv hs) fun e a' w' h => h.mono fun x fr S hx => ?_
        cases x <;> first | exact hx | exact hx.elim
      · cases hl
    | false =>
      simp only [lowerC] at hl
      obtain ⟨gs, hgs, rfl⟩ := opt_map hl
      refine wp_region_list ?_
      simp only [vc] at hv
      refine wpList_mono (fun e a w h => h.mono fun x fr S hx => ?_) _ _ _ (steps_sound ops.toList gs fr S μ w a hgs hv hs)
      cases x <;> first | exact hx | exact hx.elim
  | .seq c d, lc, Q, fr, S, μ, w, a, hl, hv, hs => by
    simp only [lowerC] at hl
    split at hl
    · rename_i x y hx hy
      cases hl
      refine wp_seq ?_
      refine wp_mono (vc_sound c x _ fr S μ w a hx hv hs) fun e a' w' ⟨μ', S', fr', z, h1, h2, h3, h4⟩ => ?_
      cases z with
      | normal =>
        cases e <;> first | exact h4.elim | skip
        exact wp_mono (vc_sound d y Q fr' S' μ' w' a' hy h1 h2) fun e a w h => h.keep h3
      | _ => cases e <;> first | exact h4.elim | exact ⟨μ', S', fr', _, h1, h2, h3, h4⟩
    · cases hl
  | .cond x c d, lc, Q, fr, S, μ, w, a, hl, hv, hs => by
    simp only [lowerC] at hl
    split at hl
    · rename_i l x' y' hx hc hd
      cases hl
      have h1 := lowerX_sound hs.fr hx
      simp only [vc] at hv
      split at hv
      · rename_i t ht
        rw [ht] at h1
        simp only [Rep] at h1
        cases t with
        | true => exact wp_cond_true h1 (vc_sound c x' Q fr S μ w a hc (hv.1 rfl) hs)
        | false => exact wp_cond_false h1 (vc_sound d y' Q fr S μ w a hd (hv.2 rfl) hs)
      · exact hv.elim
    · cases hl
  | .block id c, lc, Q, fr, S, μ, w, a, hl, hv, hs => by
    simp only [lowerC] at hl
    obtain ⟨x, hx, rfl⟩ := opt_map hl
    refine wp_block ?_
    refine wp_mono (vc_sound c x _ fr S μ w a hx hv hs) fun e a' w' ⟨μ', S', fr', z, h1, h2, h3, h4⟩ => ?_
    cases z with
    | exit i =>
      cases e with
      | exit j =>
        have e1 : i = j := h4
        subst e1
        simp only at h1
        show (if i = id then Post n ds μ (Mut μ S) w Q .normal a' w' else Post n ds μ (Mut μ S) w Q (.exit i) a' w')
        by_cases e2 : i = id
        · rw [if_pos e2] at h1 ⊢
          exact ⟨μ', S', fr', .normal, h1, h2, h3, trivial⟩
        · rw [if_neg e2] at h1 ⊢
          exact ⟨μ', S', fr', .exit i, h1, h2, h3, rfl⟩
      | _ => exact h4.elim
    | _ => cases e <;> first | exact h4.elim | exact ⟨μ', S', fr', _, h1, h2, h3, h4⟩
  | .loop c, lc, Q, fr, S, μ, w, a, hl, hv, hs => by
    simp only [lowerC] at hl
    obtain ⟨x, hx, rfl⟩ := opt_map hl
    simp only [vc] at hv
    obtain ⟨I, m, h0, hround⟩ := hv
    intro b kk cs
    have key : ∀ (k : Nat) (fr' : Fr) (S' : Store) (μ' : Mu) (w' : World) (a' : Act), I k fr' S' → St n ds μ' S' w' fr' a' → Keeps μ (Mut μ S) w μ' (Mut μ' S') w' →
        ∃ e a1 w1, Post n ds μ (Mut μ S) w Q e a1 w1 ∧ Arrives P (lone (b.at a' (.code c :: .inLoop c :: kk)) cs w') b kk cs e a1 w1 := by
      intro k
      induction k using Nat.strongRecOn with
      | _ k ih =>
        intro fr' S' μ' w' a' hI hs' hk
        obtain ⟨e, a1, w1, hq, harr⟩ := vc_sound c x _ fr' S' μ' w' a' hx (hround k fr' S' hI) hs' b (.inLoop c :: kk) cs
        obtain ⟨μ1, S1, fr1, z, h1, h2, h3, h4⟩ := hq
        cases z with
        | normal =>
          cases e <;> first | exact h4.elim | skip
          obtain ⟨k1, hk1, hI1⟩ := h1
          obtain ⟨e2, a2, w2, hq2, harr2⟩ := ih k1 hk1 fr1 S1 μ1 w1 a1 hI1 h2 (hk.trans h3)
          exact ⟨e2, a2, w2, hq2, .of_steps (Steps.trans harr (.one step_inLoop)) harr2⟩
        | _ => cases e <;> first
          | exact h4.elim
          | exact ⟨_, a1, w1, ⟨μ1, S1, fr1, _, h1, h2, hk.trans h3, h4⟩, .pass (x := .inLoop c) rfl (fun _ _ => .inl (by simp)) harr⟩
    obtain ⟨e, a', w', hq, harr⟩ := key _ fr S μ w a h0 hs (Keeps.refl _ _ _)
    exact ⟨e, a', w', hq, .of_steps (.one step_loop) harr⟩
  | .rangeFunc .., lc, Q, fr, S, μ, w, a, hl, hv, hs => by simp [lowerC] at hl
  | .scope .., lc, Q, fr, S, μ, w, a, hl, hv, hs => by simp [lowerC] at hl
  | .label .., lc, Q, fr, S, μ, w, a, hl, hv, hs => by simp [lowerC] at hl
  | .goto .., lc, Q, fr, S, μ, w, a, hl, hv, hs => by simp [lowerC] at hl
  | .refuse .., lc, Q, fr, S, μ, w, a, hl, hv, hs => by
    simp only [lowerC, Option.some.injEq] at hl; subst hl
    exact hv.elim
end
end Go.Proofs.Ytmlllckecalaaaa.Eng

namespace Go.Proofs.Ytmlllckecalaaaa.Eng
open Go

/-! ## A function -/
def initFr : List AV → Nat → Fr → Fr
  | [], _, fr => fr
  | x :: l, i, fr => initFr l (i + 1) (upd fr i x)
def fr0 : Fr := fun _ => .und
theorem fr0_at (t : Nat) : fr0 t = .und := rfl

theorem initFr_at : ∀ (l : List AV) (i : Nat) (fr : Fr) (t : Nat), initFr l i fr t = if t < i then fr t else match l[t - i]? with | some x => x | none => fr t
  | [], i, fr, t => by simp [initFr]
  | x :: l, i, fr, t => by
    rw [initFr, initFr_at l]
    by_cases h1 : t < i
    · rw [if_pos (by omega), if_pos h1, upd_ne _ _ (by omega)]
    · rw [if_neg h1]
      by_cases h2 : t = i
      · subst h2; simp [upd_same]
      · rw [if_neg (by omega)]
        obtain ⟨k, hk⟩ : ∃ k, t - i = k + 1 := ⟨t - i - 1, by omega⟩
        have : t - (i + 1) = k := by omega
        rw [hk, this, List.getElem?_cons_succ, upd_ne _ _ h2]

def resV1 (S : Store) (fr : Fr) : LRes → Option AV
  | .tmp t => some (fr t)
  | .cell a ag n => match deref S (fr a) with
    | some cs => if n ≤ cs.length then some (mk ag (cs.take n)) else none
    | none => none
def resL (S : Store) (fr : Fr) : List LRes → Option (List AV)
  | [] => some []
  | r :: l => match resV1 S fr r, resL S fr l with
    | some v, some vs => some (v :: vs)
    | _, _ => none
def pack : List AV → AV
  | [v] => v
  | vs => .tup vs

section
variable {P : Program} {μ : Mu} {S : Store} {w : World} {fr : Fr} {a : Act}

def resFn (a : Act) : ResultVar → Sem Value
  | .tmp t => pure (a.tmps.getD t undef)
  | .cell x t => do loadVar t (← asAddr (a.tmps.getD x undef))

theorem res_sound (hr : Repr μ S w) (hf : FrRep μ (Mut μ S) w fr a) : ∀ (rs : List ResultVar) (ls : List LRes) (vs : List AV), lowerRes P rs = some ls → resL S fr ls = some vs →
    ∃ xs : List Value, (rs.mapM (resFn a)).run P w = .ok xs w ∧ RepVals μ (Mut μ S) w vs xs
  | [], ls, vs, hl, hv => by
    simp only [lowerRes, Option.some.injEq] at hl; subst hl
    simp only [resL, Option.some.injEq] at hv; subst hv
    exact ⟨[], by simp, by simp only [RepVals]⟩
  | .tmp t :: rs, ls, vs, hl, hv => by
    simp only [lowerRes] at hl
    obtain ⟨l, hl', rfl⟩ := opt_map hl
    simp only [resL, resV1] at hv
    split at hv
    · rename_i v vs' h1 h2
      cases h1; cases hv
      obtain ⟨xs, e1, e2⟩ := res_sound hr hf rs l vs' hl' h2
      refine ⟨a.tmps.getD t undef :: xs, ?_, ?_⟩
      rotate_left
      · simp only [RepVals]; exact ⟨_, _, rfl, hf t, e2⟩
      · rw [List.mapM_cons]; simp only [resFn, Sem.run_bind, Sem.run_pure, Result.andThen_ok, e1]
    · cases hv
  | .cell x t :: rs, ls, vs, hl, hv => by
    simp only [lowerRes] at hl
    split at hl
    · rename_i l i hl' hi
      have main : ∀ (ag : Bool) (n : Nat) (d : TypeDesc), P.underlying t = some d → isAggB P t = ag → (if ag then n = i.size else n = 1) → ls = .cell x ag n :: l → ∃ xs : List Value, ((ResultVar.cell x t :: rs).mapM (resFn a)).run P w = .ok xs w ∧ RepVals μ (Mut μ S) w vs xs := by
        rintro ag n d hd hag hn rfl
        simp only [resL, resV1] at hv
        split at hv
        · rename_i v vs' h1 h2
          cases hv
          split at h1
          · rename_i cs hcs
            split at h1
            · rename_i hle
              cases h1
              obtain ⟨xs, e1, e2⟩ := res_sound hr hf rs l vs' hl' h2
              obtain ⟨b, o, hp, hc⟩ := deref_sound hr (hf x) hcs
              obtain ⟨y, h3, h4⟩ := run_loadVar_of t hi hd b o cs hc ag n hag hn hle
              refine ⟨y :: xs, ?_, ?_⟩
              rotate_left
              · simp only [RepVals]; exact ⟨_, _, rfl, h4, e2⟩
              · rw [List.mapM_cons]
                simp only [resFn, hp, asAddr, Sem.run_bind, Sem.run_pure, Result.andThen_ok, h3, e1]
            · cases h1
          · cases h1
        · cases hv
      split at hl
      · rename_i hag
        obtain ⟨d, hd⟩ := isAgg_und hag
        cases hl
        exact main true _ d hd hag rfl rfl
      · rename_i hag
        split at hl
        · rename_i hs
          obtain ⟨d, hd⟩ := Option.isSome_iff_exists.1 hs
          cases hl
          exact main false _ d hd (by simpa using hag) rfl rfl
        · cases hl
    · cases hl

theorem results_sound {fn : Func} (hr : Repr μ S w) (hf : FrRep μ (Mut μ S) w fr a) {ls : List LRes} {vs : List AV} (hl : lowerRes P fn.results.toList = some ls) (hv : resL S fr ls = some vs) :
    ∃ x, (results fn a.tmps).run P w = .ok x w ∧ Rep μ (Mut μ S) w (pack vs) x := by
  obtain ⟨xs, h1, h2⟩ := res_sound hr hf _ ls vs hl hv
  have e : fn.results = fn.results.toList.toArray := by simp
  unfold results
  rw [e, List.mapM_toArray]
  simp only [Sem.run_bind, Sem.run_map]
  refine ⟨if h : xs.toArray.size = 1 then xs.toArray[0] else .tuple xs.toArray, ?_, ?_⟩
  · have h1' := h1
    erw [h1']
    rfl
  · match vs, xs, h2 with
    | [], xs, h2 => simp only [RepVals] at h2; subst h2; simp only [pack, Rep]; exact ⟨#[], by simp, by simp [RepVals]⟩
    | [v], xs, h2 =>
      simp only [RepVals] at h2
      obtain ⟨y, vs', rfl, h3, rfl⟩ := h2
      simpa [pack] using h3
    | v :: v' :: vs, xs, h2 =>
      have hlen := h2.length
      simp only [List.length_cons] at hlen
      have hne : ¬ xs.toArray.size = 1 := by simp; omega
      rw [dif_neg hne]
      simp only [pack, Rep]
      exact ⟨_, rfl, h2⟩

def Qend (rs : List LRes) (K : AEnd → Store → Prop) : Qx := fun e fr S => match e with
  | .normal | .ret => ∃ vs, resL S fr rs = some vs ∧ K (.ret (pack vs)) S
  | .pan v => K (.pan v) S
  | .exit _ => False

theorem acalls_of_vc {f : FuncId} {n : Nat} {rs : List LRes} {body : LCode} {args : List AV} {S : Store} {K : AEnd → Store → Prop} (hl : lowerF P f = some ⟨n, rs, body⟩) (hle : args.length ≤ n) (h : vc P body (Qend rs K) (initFr args 0 fr0) S) : ACalls P f args S K := by
  unfold lowerF at hl
  split at hl
  · rename_i fn hfn
    split at hl
    · rename_i c hc
      split at hl
      · rename_i b r hb hres
        simp only [Option.some.injEq, LFunc.mk.injEq] at hl
        obtain ⟨rfl, rfl, rfl⟩ := hl
        intro μ w vs hr hv
        have hf0 : FrRep μ (Mut μ S) w (initFr args 0 fr0) { tmps := vs.toArray ++ Array.replicate (fn.ntmps - vs.toArray.size) undef, defers := [] } := by
          intro t
          rw [initFr_at, if_neg (by omega), Nat.sub_zero]
          have hlen := hv.length
          simp only [Array.getD_eq_getD_getElem?]
          cases hx : args[t]? with
          | some x =>
            obtain ⟨y, hy, hry⟩ := hv.at t x hx
            have : t < vs.length := get_lt hy
            have e : (vs.toArray ++ Array.replicate (fn.ntmps - vs.toArray.size) undef)[t]? = some y := by
              rw [Array.getElem?_append_left (by simpa using this)]
              simpa using hy
            rw [e]
            exact hry
          | none =>
            have h1 : args.length ≤ t := List.getElem?_eq_none_iff.1 hx
            have e : (vs.toArray ++ Array.replicate (fn.ntmps - vs.toArray.size) undef)[t]?.getD undef = undef := by
              rw [Array.getElem?_append_right (by simp; omega)]
              rw [Array.getElem?_replicate]
              split <;> rfl
            rw [e]
            simp only [fr0, Rep]
        have hle : vs.length ≤ fn.ntmps := by rw [hv.length]; exact hle
        · refine calls_of_wp hfn hc ?_
          refine wp_mono (vc_sound (n := fn.ntmps) (ds := []) c b _ _ S μ w _ hb h ⟨hr, hf0, by simp; omega, rfl⟩) fun e a' w' ⟨μ', S', fr', x, h1, h2, h3, h4⟩ => ?_
          have fin : ∀ vs, resL S' fr' r = some vs → K (.ret (pack vs)) S' → a'.defers = [] ∧ ∃ v, (results fn a'.tmps).run P w' = .ok v w' ∧ ∃ μ' S' r, K r S' ∧ Repr μ' S' w' ∧ Keeps μ (Mut μ S) w μ' (Mut μ' S') w' ∧ RepEnd μ' (Mut μ' S') w' r (.returned v) := by
            intro vs e1 e2
            obtain ⟨y, h5, h6⟩ := results_sound (fn := fn) h2.repr h2.fr hres e1
            exact ⟨h2.defers, y, h5, μ', S', _, e2, h2.repr, h3, h6⟩
          cases x with
          | normal =>
            cases e <;> first | exact h4.elim | skip
            obtain ⟨vs, e1, e2⟩ := h1
            exact fin vs e1 e2
          | ret =>
            cases e <;> first | exact h4.elim | skip
            obtain ⟨vs, e1, e2⟩ := h1
            exact fin vs e1 e2
          | pan v =>
            cases e <;> first | exact h4.elim | skip
            obtain ⟨u, e1, e2⟩ := h4
            exact ⟨h2.defers, μ', S', .pan v, h1, h2.repr, h3, u, e1, e2⟩
          | exit i => exact h1.elim
      · cases hl
    · cases hl
  · cases hl
end
end Go.Proofs.Ytmlllckecalaaaa.Eng

namespace Go.Proofs.Ytmlllckecalaaaa.Eng
open Go

/-! ## What is left behind at a function's end -/
def Turn (n0 : Nat) (vs : List AV) (S : Store) (vs' : List AV) (T : Store) : Prop :=
  ∀ μ w xs, Repr μ S w → RepVals μ (Mut μ S) w vs xs → ∃ μ', Repr μ' T w ∧ (∀ l c, l < n0 → μ l = some c → μ' l = some c) ∧ (∀ b, Mut μ' T b → Mut μ S b) ∧ RepVals μ' (Mut μ' T) w vs' xs

theorem Turn.refl (n0 : Nat) (vs : List AV) (S : Store) : Turn n0 vs S vs S := fun μ w xs h1 h2 => ⟨μ, h1, fun _ _ _ h => h, fun _ h => h, h2⟩
theorem Turn.trans {n0 vs S vs1 T vs2 U} (h : Turn n0 vs S vs1 T) (k : Turn n0 vs1 T vs2 U) : Turn n0 vs S vs2 U := fun μ w xs h1 h2 => by
  obtain ⟨μ1, a1, a2, a3, a4⟩ := h μ w xs h1 h2
  obtain ⟨μ2, b1, b2, b3, b4⟩ := k μ1 w xs a1 a4
  exact ⟨μ2, b1, fun l c hl hc => b2 l c hl (a2 l c hl hc), fun b hb => a3 b (b3 b hb), b4⟩

def AEnd.val : AEnd → AV
  | .ret v => v
  | .pan v => v
def AEnd.with : AEnd → AV → AEnd
  | .ret _, v => .ret v
  | .pan _, v => .pan v

theorem ACalls.turn {P f args S} {K0 K : AEnd → Store → Prop} (h : ACalls P f args S K0) (hk : ∀ r S', K0 r S' → ∃ v T, Turn S.n [r.val] S' [v] T ∧ K (r.with v) T) : ACalls P f args S K := by
  intro μ w vs hr hv
  refine (h μ w vs hr hv).mono fun e w' ⟨μ', S', r, h1, h2, h3, h4⟩ => ?_
  obtain ⟨v, T, ht, hK⟩ := hk r S' h1
  have hx : ∃ x, Rep μ' (Mut μ' S') w' r.val x ∧ ∀ μ2 M2, Rep μ2 M2 w' v x → RepEnd μ2 M2 w' (r.with v) e := by
    cases r with
    | ret u =>
      cases e with
      | returned x => exact ⟨x, h4, fun μ2 M2 h => h⟩
      | _ => exact h4.elim
    | pan u =>
      cases e <;> first | exact h4.elim | skip
      obtain ⟨x, e1, e2⟩ := h4
      exact ⟨x, e2, fun μ2 M2 h => ⟨x, e1, h⟩⟩
  obtain ⟨x, hx1, hx2⟩ := hx
  obtain ⟨μ2, b1, b2, b3, b4⟩ := ht μ' w' [x] h2 (by simp only [RepVals]; exact ⟨x, [], rfl, hx1, rfl⟩)
  simp only [RepVals] at b4
  obtain ⟨x', _, e, b4, rfl⟩ := b4
  simp only [List.cons.injEq, and_true] at e
  subst e
  refine ⟨μ2, T, r.with v, hK, b1, ?_, hx2 _ _ b4⟩
  exact ⟨fun l c hl => b2 l c (hr.fin l c hl) (h3.mu l c hl), fun b hb hm => h3.keepM b hb (b3 b hm), h3.size, h3.heap, h3.os, h3.tape, h3.output⟩

theorem Turn.drop {n0 vs S T} (hT : ∀ l o, T.get l = some o → S.get l = some o) (hn : S.n ≤ T.n) : Turn n0 vs S vs T := fun μ w xs h1 h2 => by
  obtain ⟨a1, a2⟩ := h1.drop hT hn
  exact ⟨μ, a1, fun _ _ _ h => h, fun b ⟨l, o, c, e1, e2⟩ => ⟨l, o, c, hT _ _ e1, e2⟩, RepVals.keep a2 _ _ h2⟩

mutual
/-- A row of one's own is given out as a slice that is read. -/
def fz (l s : Nat) (es : List (List AV)) : AV → AV
  | .own r off len => if r = l then .sl s (es.drop off) len else .own r off len
  | .agg cs => .agg (fzL l s es cs)
  | .tup cs => .tup (fzL l s es cs)
  | v => v
def fzL (l s : Nat) (es : List (List AV)) : List AV → List AV
  | [] => []
  | c :: cs => fz l s es c :: fzL l s es cs
end
mutual
/-- No row of `l` reaches behind its end. -/
def fzOk (l n : Nat) : AV → Prop
  | .own r off len => r = l → off + len ≤ n
  | .agg cs => fzOkL l n cs
  | .tup cs => fzOkL l n cs
  | _ => True
def fzOkL (l n : Nat) : List AV → Prop
  | [] => True
  | c :: cs => fzOk l n c ∧ fzOkL l n cs
end

theorem RepCells.weak {μ M w μ' M'} (k : Keeps μ M w μ' M' w) : ∀ (cs : List AV) (b o : Nat), RepCells μ M w cs b o → RepCells μ' M' w cs b o
  | [], b, o, h => by simp only [RepCells]
  | c :: cs, b, o, h => by
    simp only [RepCells] at h ⊢
    obtain ⟨⟨v, h1, h2, h3⟩, h4⟩ := h
    exact ⟨⟨v, h1, h2, h3.keep k⟩, RepCells.weak k cs b _ h4⟩
theorem RepRow.weak {μ M w μ' M'} (k : Keeps μ M w μ' M' w) (s : Nat) : ∀ (es : List (List AV)) (b o : Nat), RepRow μ M w s es b o → RepRow μ' M' w s es b o
  | [], b, o, h => by simp only [RepRow]
  | c :: cs, b, o, h => by
    simp only [RepRow] at h ⊢
    exact ⟨h.1.weak k, RepRow.weak k s cs b _ h.2⟩

section
variable {μ : Mu} {S : Store} {w : World} {l s frz : Nat} {t : TypeId} {es : List (List AV)}
mutual
theorem fz_sound (hr : Repr μ S w) (hl : S.get l = some (.row t s frz es)) : ∀ (x : AV) (v : Value), fzOk l es.length x → Rep μ (Mut μ S) w x v → Rep μ (Mut μ (S.set l none)) w (fz l s es x) v
  | .own r off len, v, hok, h => by
    simp only [fz]
    by_cases e : r = l
    · subst e
      simp only [if_true]
      simp only [fzOk] at hok
      have hle := hok trivial
      simp only [Rep] at h
      obtain ⟨c, A, hc, h1, h2, hv, hA⟩ := h
      obtain ⟨c', hc', ho⟩ := hr.objs r _ hl
      rw [hc] at hc'; cases hc'
      obtain ⟨h0, arr, fr, a1, a2, a3, a4, a5, a6, a7, a8, a9, a10⟩ := ho
      have hnm : ¬ Mut μ (S.set r none) c.block := by
        rintro ⟨j, o, d, e1, e2, e3⟩
        rw [Store.get_set] at e1
        by_cases ej : j = r
        · rw [if_pos ej] at e1; cases e1
        · rw [if_neg ej] at e1; exact ej (hr.inj j r o _ d c e1 hl e2 hc e3)
      have k : Keeps μ (Mut μ S) w μ (Mut μ (S.set r none)) w := (hr.drop (T := S.set r none) (fun j o e1 => by
        rw [Store.get_set] at e1
        by_cases ej : j = r
        · rw [if_pos ej] at e1; cases e1
        · rw [if_neg ej] at e1; exact e1) (Nat.le_refl _)).2
      have hlen : (es.drop off).length = es.length - off := by rw [List.length_drop]
      simp only [Rep]
      refine ⟨A, c.cap - off, hv, by rw [hlen]; omega, by rw [hlen]; omega, by rw [hlen]; omega, fun cs hcs => ?_, ?_⟩
      · rw [← h0]; exact a5 cs (List.mem_of_mem_drop hcs)
      · by_cases hlt : off < c.cap
        · refine .inr ⟨c.block, off * c.size, hA hlt, heap_lt a1, hnm, ?_⟩
          have hrow : RepRow μ (Mut μ S) w c.size es c.block 0 := repRow_of_block a1 a7 c.size es 0 _ a5 (fun j hj => by
            rw [Nat.zero_add]
            simp only [List.length_take] at hj
            rw [List.getElem?_take, if_pos (by omega)]) a6
          have := (RepRow.drop c.size es c.block 0 off hrow).weak k
          rw [h0, Nat.zero_add] at this
          rw [h0]
          exact this
        · refine .inl ?_
          exact List.eq_nil_of_length_eq_zero (by rw [hlen]; omega)
    · simp only [if_neg e]
      simp only [Rep] at h ⊢
      exact h
  | .agg cs, v, hok, h => by
    simp only [fzOk] at hok
    simp only [fz, Rep] at h ⊢
    obtain ⟨vs, e, h1, h2⟩ := h
    exact ⟨vs, e, fzL_sound hr hl cs _ hok h1, h2⟩
  | .tup cs, v, hok, h => by
    simp only [fzOk] at hok
    simp only [fz, Rep] at h ⊢
    obtain ⟨vs, e, h1⟩ := h
    exact ⟨vs, e, fzL_sound hr hl cs _ hok h1⟩
  | .int _ _, v, _, h | .bool _, v, _, h | .str _, v, _, h | .lit _, v, _, h | .ptr _ _, v, _, h | .rptr _ _ _, v, _, h | .rop _ _, v, _, h | .sl _ _ _, v, _, h | .mp _, v, _, h | .fn _ _, v, _, h | .ifc _ _, v, _, h | .und, v, _, h | .junk, v, _, h => by
    simp only [fz]
    exact h.keep (hr.drop (T := S.set l none) (fun j o e1 => by
        rw [Store.get_set] at e1
        by_cases ej : j = l
        · rw [if_pos ej] at e1; cases e1
        · rw [if_neg ej] at e1; exact e1) (Nat.le_refl _)).2
theorem fzL_sound (hr : Repr μ S w) (hl : S.get l = some (.row t s frz es)) : ∀ (x : List AV) (v : List Value), fzOkL l es.length x → RepVals μ (Mut μ S) w x v → RepVals μ (Mut μ (S.set l none)) w (fzL l s es x) v
  | [], v, _, h => by simpa only [fzL, RepVals] using h
  | c :: cs, v, hok, h => by
    simp only [fzOkL] at hok
    simp only [fzL, RepVals] at h ⊢
    obtain ⟨x, xs, e, h1, h2⟩ := h
    exact ⟨x, xs, e, fz_sound hr hl c x hok.1 h1, fzL_sound hr hl cs xs hok.2 h2⟩
end

theorem drop_one (S : Store) (l : Nat) : ∀ j o, (S.set l none).get j = some o → S.get j = some o := fun j o e1 => by
  rw [Store.get_set] at e1
  by_cases ej : j = l
  · rw [if_pos ej] at e1; cases e1
  · rw [if_neg ej] at e1; exact e1

theorem Turn.freeze {n0 vs} (hl : S.get l = some (.row t s frz es)) (hok : fzOkL l es.length vs) : Turn n0 vs S (fzL l s es vs) (S.set l none) := fun μ w xs h1 h2 =>
  ⟨μ, (h1.drop (drop_one S l) (Nat.le_refl _)).1, fun _ _ _ h => h, fun b ⟨j, o, c, e1, e2⟩ => ⟨j, o, c, drop_one S l _ _ e1, e2⟩, fzL_sound h1 hl vs xs hok h2⟩

/-- A row of one's own is handed on, to be read and kept. -/
theorem ACalls.give {P f args} {K : AEnd → Store → Prop} (hl : S.get l = some (.row t s frz es)) (hok : fzOkL l es.length args) (h : ACalls P f (fzL l s es args) (S.set l none) K) : ACalls P f args S K := by
  intro μ w vs hr hv
  have k := (hr.drop (drop_one S l) (Nat.le_refl _))
  refine (h μ w vs k.1 (fzL_sound hr hl args vs hok hv)).mono fun e w' ⟨μ', S', r, h1, h2, h3, h4⟩ => ⟨μ', S', r, h1, h2, k.2.trans h3, h4⟩

end

theorem reset_vals {n : Nat} {μ μ' : Mu} {M M' : Nat → Prop} {w : World} (h : ∀ x v, Rep μ M w x v → nm n x → Rep μ' M' w x v) : ∀ (vs : List AV) (xs : List Value), RepVals μ M w vs xs → nmL n vs → RepVals μ' M' w vs xs
  | [], xs, h1, _ => by simpa only [RepVals] using h1
  | c :: vs, xs, h1, h2 => by
    simp only [RepVals, nmL] at h1 h2 ⊢
    obtain ⟨x, xs, e, a1, a2⟩ := h1
    exact ⟨x, xs, e, h c x a1 h2.1, reset_vals h vs xs a2 h2.2⟩

theorem Turn.reset {n0 vs S T} (hn : T.n ≤ S.n) (h0 : n0 ≤ T.n) (hT : ∀ l o, T.get l = some o → S.get l = some o ∧ l < T.n ∧ nmO T.n o) (hv : nmL T.n vs) : Turn n0 vs S vs T := fun μ w xs h1 h2 => by
  obtain ⟨a1, a2, a3⟩ := h1.reset hn hT
  refine ⟨_, a1, fun l c hl hc => ?_, a2, ?_⟩
  · unfold cutMu; rw [if_pos (by omega)]; exact hc
  · exact reset_vals a3 vs xs h2 hv

/-! ## The usual end: what was there is there, the names are given back -/
def WF (S : Store) : Prop := ∀ l o, S.get l = some o → l < S.n ∧ nmO S.n o
theorem Repr.wf {μ S w} (h : Repr μ S w) : WF S := fun l o e => by
  obtain ⟨c, h1, h2⟩ := h.objs l o e
  exact ⟨h.fin l c h1, h2.names h.fin⟩
theorem ACalls.wf {P f args S} {K : AEnd → Store → Prop} (h : WF S → nmL S.n args → ACalls P f args S K) : ACalls P f args S K := fun μ w vs hr hv => h hr.wf (RepVals.names hr.fin _ _ hv) μ w vs hr hv

structure Ext (S T : Store) : Prop where
  n : S.n ≤ T.n
  get : ∀ l, l < S.n → T.get l = S.get l
theorem Ext.refl (S : Store) : Ext S S := ⟨Nat.le_refl _, fun _ _ => rfl⟩
theorem Ext.push {S T : Store} (h : Ext S T) (o : AObj) : Ext S (T.push o) := ⟨Nat.le_succ_of_le h.n, fun l hl => by rw [Store.get_push_ne _ _ (by have := h.n; omega)]; exact h.get l hl⟩
theorem Ext.set {S T : Store} (h : Ext S T) (l : Nat) (o : Option AObj) (hl : S.n ≤ l) : Ext S (T.set l o) := ⟨h.n, fun j hj => by rw [Store.get_set_ne _ _ (by omega)]; exact h.get j hj⟩
theorem Ext.trans {S T U : Store} (h : Ext S T) (k : Ext T U) : Ext S U := ⟨Nat.le_trans h.n k.n, fun l hl => (k.get l (Nat.lt_of_lt_of_le hl h.n)).trans (h.get l hl)⟩

theorem ACalls.back {P f args S} {K0 K : AEnd → Store → Prop} (h : ACalls P f args S K0) (hk : ∀ r S', K0 r S' → Ext S S' ∧ nm S.n r.val ∧ K r S) : ACalls P f args S K :=
  ACalls.wf fun hwf hn => h.turn fun r S' hr => by
    obtain ⟨h1, h2, h3⟩ := hk r S' hr
    refine ⟨r.val, S, Turn.reset h1.n (Nat.le_refl _) (fun l o e => ?_) (by simp only [nmL]; exact ⟨h2, trivial⟩), by cases r <;> exact h3⟩
    obtain ⟨a1, a2⟩ := hwf l o e
    exact ⟨by rw [h1.get l a1]; exact e, a1, a2⟩

theorem Pure.use {P f args v} {S : Store} {K : AEnd → Store → Prop} (h : Pure P f args v) (k : K (.ret v) S) : ACalls P f args S K := (h S).mono fun r S' ⟨h1, h2⟩ => by subst h1; subst h2; exact k
theorem Pure.of {P f args v} (hn : ∀ n, nmL n args → nm n v) (h : ∀ S, ACalls P f args S fun r S' => r = .ret v ∧ Ext S S') : Pure P f args v := fun S =>
  ACalls.wf fun _ hw => ACalls.back (h S) fun r S' ⟨h1, h2⟩ => ⟨h2, by subst h1; exact hn _ hw, h1, rfl⟩

theorem w64 (n : Int) (h1 : -9223372036854775808 ≤ n) (h2 : n ≤ 9223372036854775807) : IntKind.i64.wrap n = n := by rw [IntKind.wrap_i64]; omega
end Go.Proofs.Ytmlllckecalaaaa.Eng

namespace Go.Proofs.Ytmlllckecalaaaa.Eng
open Go

/-! ## A cut in the middle of a code -/
theorem vcOps_mono {P : Program} {K K' : Fr → Store → Prop} {E E' : AV → Fr → Store → Prop} (hk : ∀ fr S, K fr S → K' fr S) (he : ∀ v fr S, E v fr S → E' v fr S) :
    ∀ (l : List (Option Nat × LOp)) (fr : Fr) (S : Store), vcOps P K E l fr S → vcOps P K' E' l fr S
  | [], fr, S, h => hk _ _ h
  | (d, op) :: l, fr, S, h => by
    rw [vcOps_cons] at h ⊢
    cases hs : stepOp P fr S op with
    | none => rw [hs] at h; exact h
    | some out =>
      rw [hs] at h
      cases out with
      | val v => exact vcOps_mono hk he l _ _ h
      | st v S' => exact vcOps_mono hk he l _ _ h
      | asks p g v S' => exact ⟨h.1, fun hg => vcOps_mono hk he l _ _ (h.2 hg)⟩
      | call f args =>
        refine ACalls.mono h fun r S' hr => ?_
        cases r
        · exact vcOps_mono hk he l _ _ hr
        · exact he _ _ _ hr
      | pan v => exact he _ _ _ h
theorem vcGrps_mono {P : Program} {K K' : Fr → Store → Prop} {E E' : AV → Fr → Store → Prop} (hk : ∀ fr S, K fr S → K' fr S) (he : ∀ v fr S, E v fr S → E' v fr S) :
    ∀ (l : List LGrp) (fr : Fr) (S : Store), vcGrps P K E l fr S → vcGrps P K' E' l fr S
  | [], fr, S, h => hk _ _ h
  | ⟨none, ops⟩ :: l, fr, S, h => by
    rw [vcGrps_cons] at h ⊢
    exact vcOps_mono (fun fr S => vcGrps_mono hk he l fr S) he ops fr S h
  | ⟨some (g, want), ops⟩ :: l, fr, S, h => by
    rw [vcGrps_guard] at h ⊢
    unfold vcGuard at h ⊢
    split at h
    · exact ⟨fun e => vcOps_mono (fun fr S => vcGrps_mono hk he l fr S) he ops _ S (h.1 e), fun e => vcGrps_mono hk he l _ S (h.2 e)⟩
    · exact vcGrps_mono hk he l _ S h
    · exact h
theorem vcDOut_mono {P : Program} {fr : Fr} {S : Store} {olds : List Store} {op : LOp} {b : Nat} {N N' : AV → Prop} (h : ∀ v, N v → N' v) (o : Option Out) (hh : vcDOut P fr S olds op b N o) : vcDOut P fr S olds op b N' o := by
  unfold vcDOut at hh ⊢
  split at hh
  · exact ⟨hh.1, h _ hh.2⟩
  · exact ⟨hh.1, hh.2.1, hh.2.2.1, h _ hh.2.2.2⟩
  · obtain ⟨v, h1, h2, h3⟩ := hh; exact ⟨v, h1, h2, h _ h3⟩
  · exact hh
theorem vcD_mono {P : Program} {K K' : Fr → Store → Prop} (hk : ∀ fr S, K fr S → K' fr S) : ∀ (l : List DOp) (fr : Fr) (S : Store) (olds : List Store) (pend : List Pend), vcD P K l fr S olds pend → vcD P K' l fr S olds pend
  | [], fr, S, olds, pend, h => by rw [vcD_nil] at h ⊢; exact hk _ _ h
  | ⟨dst, none, op, true, b, f⟩ :: l, fr, S, olds, pend, h => by
    rw [vcD_eff] at h ⊢
    unfold vcDEff at h ⊢
    split at h
    · exact ⟨h.1, vcD_mono hk l _ _ _ _ h.2⟩
    · exact ⟨h.1, h.2.1, vcD_mono hk l _ _ _ _ h.2.2⟩
    · exact h
  | ⟨dst, some (g, want), op, true, b, f⟩ :: l, fr, S, olds, pend, h => by simp only [vcD] at h
  | ⟨dst, none, op, false, b, f⟩ :: l, fr, S, olds, pend, h => by
    rw [vcD_val] at h ⊢
    exact vcDOut_mono (fun v hv => vcD_mono hk l _ _ _ _ hv) _ h
  | ⟨dst, some (g, want), op, false, b, f⟩ :: l, fr, S, olds, pend, h => by
    rw [vcD_guard] at h ⊢
    unfold vcDGuard at h ⊢
    split at h
    · exact ⟨fun e => vcDOut_mono (fun v hv => vcD_mono hk l _ _ _ _ hv) _ (h.1 e), fun e => vcD_mono hk l _ _ _ _ (h.2 e)⟩
    · exact vcD_mono hk l _ _ _ _ h
    · exact h

theorem vc_mono {P : Program} : ∀ (c : LCode) (Q Q' : Qx) (fr : Fr) (S : Store), (∀ e fr S, Q e fr S → Q' e fr S) → vc P c Q fr S → vc P c Q' fr S
  | .skip, Q, Q', fr, S, h, hv => h _ _ _ hv
  | .ret, Q, Q', fr, S, h, hv => h _ _ _ hv
  | .exit i, Q, Q', fr, S, h, hv => h _ _ _ hv
  | .bad, Q, Q', fr, S, h, hv => hv
  | .region l, Q, Q', fr, S, h, hv => vcGrps_mono (fun fr S => h _ fr S) (fun v fr S => h _ fr S) l fr S hv
  | .quiet l, Q, Q', fr, S, h, hv => vcD_mono (fun fr S => h _ fr S) l fr S _ _ hv
  | .seq a b, Q, Q', fr, S, h, hv => by
    rw [vc_seq] at hv ⊢
    refine vc_mono a _ _ fr S (fun e fr S he => ?_) hv
    cases e with
    | normal => exact vc_mono b _ _ fr S h he
    | _ => exact h _ _ _ he
  | .cond c a b, Q, Q', fr, S, h, hv => by
    rw [vc_cond] at hv ⊢
    unfold vcCond at hv ⊢
    split at hv
    · exact ⟨fun e => vc_mono a _ _ fr S h (hv.1 e), fun e => vc_mono b _ _ fr S h (hv.2 e)⟩
    · exact hv
  | .block i a, Q, Q', fr, S, h, hv => by
    rw [vc_block] at hv ⊢
    refine vc_mono a _ _ fr S (fun e fr S he => ?_) hv
    cases e with
    | exit j =>
      rw [Qblk_exit] at he ⊢
      by_cases e : j = i
      · rw [if_pos e] at he ⊢; exact h _ _ _ he
      · rw [if_neg e] at he ⊢; exact h _ _ _ he
    | _ => exact h _ _ _ he
  | .loop a, Q, Q', fr, S, h, hv => by
    obtain ⟨I, n, h0, hr⟩ := hv
    refine ⟨I, n, h0, fun n fr S hI => vc_mono a _ _ fr S (fun e fr S he => ?_) (hr n fr S hI)⟩
    cases e with
    | normal => exact he
    | _ => exact h _ _ _ he

theorem vcCond_T {P : Program} {Q : Qx} {fr : Fr} {S : Store} {a b : LCode} : vcCond P Q fr S a b (.bool true) = vc P a Q fr S := by simp [vcCond]
theorem vcCond_F {P : Program} {Q : Qx} {fr : Fr} {S : Store} {a b : LCode} : vcCond P Q fr S a b (.bool false) = vc P b Q fr S := by simp [vcCond]
theorem vc_cond_pos {P : Program} {Q : Qx} {fr : Fr} {S : Store} {a b : LCode} {c : LX} {p : Prop} [Decidable p] (h : ev fr c = .bool (decide p)) (hp : p) (hv : vc P a Q fr S) : vc P (.cond c a b) Q fr S := by
  rw [vc_cond, h, decide_eq_true hp, vcCond_T]; exact hv
theorem vc_cond_neg {P : Program} {Q : Qx} {fr : Fr} {S : Store} {a b : LCode} {c : LX} {p : Prop} [Decidable p] (h : ev fr c = .bool (decide p)) (hp : ¬ p) (hv : vc P b Q fr S) : vc P (.cond c a b) Q fr S := by
  rw [vc_cond, h, decide_eq_false hp, vcCond_F]; exact hv
def Qcut (R : Fr → Store → Prop) (Q : Qx) : Qx := fun e => match e with
  | .normal => R
  | e => Q e
section
variable (R : Fr → Store → Prop) (Q : Qx) (fr : Fr) (S : Store)
theorem Qcut_normal : Qcut R Q .normal fr S = R fr S := rfl
theorem Qcut_exit (i : Nat) : Qcut R Q (.exit i) fr S = Q (.exit i) fr S := rfl
theorem Qcut_ret : Qcut R Q .ret fr S = Q .ret fr S := rfl
theorem Qcut_pan (v : AV) : Qcut R Q (.pan v) fr S = Q (.pan v) fr S := rfl
end
theorem vc_cut {P : Program} {a b : LCode} {Q : Qx} {fr : Fr} {S : Store} (R : Fr → Store → Prop) (ha : vc P a (Qcut R Q) fr S) (hb : ∀ fr S, R fr S → vc P b Q fr S) : vc P (.seq a b) Q fr S := by
  rw [vc_seq]
  refine vc_mono a _ _ fr S (fun e fr S he => ?_) ha
  cases e with
  | normal => exact hb _ _ he
  | _ => exact he
end Go.Proofs.Ytmlllckecalaaaa.Eng

namespace Go.Proofs.Ytmlllckecalaaaa.Eng
open Go

/-- An element; `ext`: what stands in its list behind its length. -/
inductive Elem where
  | mk (cls tag : Int) (cons : Bool) (bytes : List UInt8) (kids : List Elem) (ext : List (List AV))

mutual
def encE : Elem → List AV
  | .mk c t k b ks ext => [.int .i64 c, .int .i64 t, .bool k, .str b, .sl 5 (encEs ks ++ ext) ks.length]
def encEs : List Elem → List (List AV)
  | [] => []
  | e :: es => encE e :: encEs es
end
theorem encEs_length : ∀ (es : List Elem), (encEs es).length = es.length
  | [] => rfl
  | e :: es => by simp only [encEs, List.length_cons, encEs_length es]
theorem encEs_get : ∀ (es : List Elem) (i : Nat) (e : Elem), es[i]? = some e → (encEs es)[i]? = some (encE e)
  | e :: es, 0, x, h => by simp at h; subst h; simp [encEs]
  | e :: es, i + 1, x, h => by simp only [List.getElem?_cons_succ] at h; simp only [encEs, List.getElem?_cons_succ]; exact encEs_get es i x h
theorem encEs_at (es : List Elem) (ext : List (List AV)) (i : Nat) (e : Elem) (h : es[i]? = some e) : (encEs es ++ ext)[i]? = some (encE e) := by
  have h1 := encEs_get es i e h
  have : i < (encEs es).length := (List.getElem?_eq_some_iff.1 h1).1
  rw [List.getElem?_append_left this, h1]
theorem encEs_take (es : List Elem) (ext : List (List AV)) : (encEs es ++ ext).take es.length = encEs es := by
  rw [← encEs_length es]; exact List.take_left ..

def Elem.cls : Elem → Int | .mk c _ _ _ _ _ => c
def Elem.tag : Elem → Int | .mk _ t _ _ _ _ => t
def Elem.cons : Elem → Bool | .mk _ _ k _ _ _ => k
def Elem.bytes : Elem → List UInt8 | .mk _ _ _ b _ _ => b
def Elem.kids : Elem → List Elem | .mk _ _ _ _ ks _ => ks
def Elem.ext : Elem → List (List AV) | .mk _ _ _ _ _ x => x
theorem encE_eta (e : Elem) : encE e = [.int .i64 e.cls, .int .i64 e.tag, .bool e.cons, .str e.bytes, .sl 5 (encEs e.kids ++ e.ext) e.kids.length] := by
  cases e; simp only [encE, Elem.cls, Elem.tag, Elem.cons, Elem.bytes, Elem.kids, Elem.ext]

theorem Elem.ind {p : Elem → Prop} (h : ∀ e, (∀ k ∈ e.kids, p k) → p e) : ∀ e, p e := fun e =>
  Elem.rec (motive_1 := p) (motive_2 := fun ks => ∀ k ∈ ks, p k) (fun c t k b ks ext ih => h _ ih) (by simp) (fun e es h1 h2 k hk => by
    rcases List.mem_cons.1 hk with rfl | hk
    · exact h1
    · exact h2 k hk) e

theorem encE_length (e : Elem) : (encE e).length = 5 := by rw [encE_eta]; rfl
theorem encE_take5 (e : Elem) : (encE e).take 5 = encE e := by rw [encE_eta]; rfl
theorem encE_take1 (e : Elem) : (encE e).take 1 = [.int .i64 e.cls] := by rw [encE_eta]; rfl
theorem encE_drop1 (e : Elem) : (encE e).drop 1 = [.int .i64 e.tag, .bool e.cons, .str e.bytes, .sl 5 (encEs e.kids ++ e.ext) e.kids.length] := by rw [encE_eta]; rfl
theorem encE_drop2 (e : Elem) : (encE e).drop 2 = [.bool e.cons, .str e.bytes, .sl 5 (encEs e.kids ++ e.ext) e.kids.length] := by rw [encE_eta]; rfl
theorem encE_drop3 (e : Elem) : (encE e).drop 3 = [.str e.bytes, .sl 5 (encEs e.kids ++ e.ext) e.kids.length] := by rw [encE_eta]; rfl
theorem encE_drop4 (e : Elem) : (encE e).drop 4 = [.sl 5 (encEs e.kids ++ e.ext) e.kids.length] := by rw [encE_eta]; rfl
theorem splice_encE (a b c d f : AV) (e : Elem) : splice [a, b, c, d, f] 0 (encE e) = encE e := by rw [encE_eta]; rfl
end Go.Proofs.Ytmlllckecalaaaa.Eng

namespace Go.Proofs.Ytmlllckecalaaaa.Eng
open Go Go.Proofs.Try

@[irreducible] def B3 : LCode :=
  (LCode.region [⟨none, [(some 1, LOp.box 24 (LX.tmp 0)), (some 2, LOp.mv (LX.con (AV.bool false)))]⟩]).seq (((LCode.region [⟨none, [(some 8, LOp.load true 5 (LX.tmp 1)), (some 9, LOp.call 12 [LX.tmp 8]), (some 10, LOp.bin BinOp.gtr
    (LX.tmp 9) (LX.con (AV.int IntKind.i64 500)))]⟩]).seq (LCode.cond (LX.tmp 10) ((LCode.region [⟨none, [(some 11, LOp.call 13 []), (some 2, LOp.mv (LX.tmp 11))]⟩]).seq LCode.ret) LCode.skip)).seq ((LCode.region [⟨none, [(some 12,
    LOp.load true 5 (LX.tmp 1)), (some 13, LOp.call 14 [LX.tmp 12]), (some 3, LOp.alloc 24 [AV.int IntKind.i64 0, AV.int IntKind.i64 0, AV.bool false, AV.str [], AV.lit (Value.slice none 0 0)]), (none, LOp.store 5 (LX.tmp 3) (LX.tmp
    13))]⟩]).seq ((LCode.region [⟨none, [(some 15, LOp.load true 5 (LX.tmp 3)), (some 16, LOp.call 15 [LX.tmp 15]), (some 14, LOp.mv (LX.tmp 16)), (some 17, LOp.extr 0 (LX.tmp 14)), (some 18, LOp.extr 1 (LX.tmp 14)), (some 4, LOp.mv
    (LX.tmp 17)), (some 5, LOp.mv (LX.tmp 18))]⟩]).seq ((LCode.region [⟨none, [(some 20, LOp.load true 5 (LX.tmp 1)), (some 21, LOp.call 16 [LX.tmp 20]), (some 19, LOp.mv (LX.tmp 21)), (some 22, LOp.extr 0 (LX.tmp 19)), (some 23,
    LOp.extr 1 (LX.tmp 19)), (some 6, LOp.mv (LX.tmp 22)), (some 7, LOp.mv (LX.tmp 23))]⟩]).seq ((LCode.region [⟨none, [(some 24, LOp.call 13 []), (some 25, LOp.mv (LX.tmp 24))]⟩, ⟨some (25, true), [(some 26, LOp.mv (LX.tmp 4)),
    (some 27, LOp.mv (LX.tmp 6)), (some 28, LOp.bin BinOp.eql (LX.tmp 26) (LX.tmp 27))]⟩, ⟨none, [(some 29, LOp.pick (LX.tmp 25) (LX.tmp 28) (LX.con (AV.bool false))), (some 30, LOp.mv (LX.tmp 29))]⟩, ⟨some (30, true), [(some 31,
    LOp.mv (LX.tmp 5)), (some 32, LOp.mv (LX.tmp 7)), (some 33, LOp.bin BinOp.eql (LX.tmp 31) (LX.tmp 32))]⟩, ⟨none, [(some 34, LOp.pick (LX.tmp 30) (LX.tmp 33) (LX.con (AV.bool false))), (some 35, LOp.mv (LX.tmp 34))]⟩, ⟨some (35,
    true), [(some 36, LOp.load true 5 (LX.tmp 3)), (some 37, LOp.load true 5 (LX.tmp 1)), (some 38, LOp.call 17 [LX.tmp 36, LX.tmp 37])]⟩, ⟨none, [(some 39, LOp.pick (LX.tmp 35) (LX.tmp 38) (LX.con (AV.bool false))), (some 40,
    LOp.mv (LX.tmp 39))]⟩, ⟨some (40, true), [(some 41, LOp.load true 5 (LX.tmp 3)), (some 42, LOp.call 18 [LX.tmp 41])]⟩, ⟨none, [(some 43, LOp.pick (LX.tmp 40) (LX.tmp 42) (LX.con (AV.bool false))), (some 2, LOp.mv (LX.tmp
    43))]⟩]).seq LCode.ret)))))
theorem low3 : lowerF prog 3 = some ⟨44, [LRes.tmp 2], B3⟩ := by kernel_rfl

@[irreducible] def B4 : LCode :=
  (LCode.region [⟨none, [(some 1, LOp.box 24 (LX.tmp 0)), (some 2, LOp.mv (LX.con (AV.bool false)))]⟩]).seq (((LCode.region [⟨none, [(some 9, LOp.load true 5 (LX.tmp 1)), (some 10, LOp.call 12 [LX.tmp 9]), (some 11, LOp.bin
    BinOp.gtr (LX.tmp 10) (LX.con (AV.int IntKind.i64 500)))]⟩]).seq (LCode.cond (LX.tmp 11) ((LCode.region [⟨none, [(some 12, LOp.call 13 []), (some 2, LOp.mv (LX.tmp 12))]⟩]).seq LCode.ret) LCode.skip)).seq ((LCode.region [⟨none,
    [(some 14, LOp.load true 5 (LX.tmp 1)), (some 15, LOp.call 15 [LX.tmp 14]), (some 13, LOp.mv (LX.tmp 15)), (some 16, LOp.extr 0 (LX.tmp 13)), (some 17, LOp.extr 1 (LX.tmp 13)), (some 3, LOp.mv (LX.tmp 16)), (some 4, LOp.mv
    (LX.tmp 17))]⟩]).seq (((LCode.region [⟨none, [(some 18, LOp.mv (LX.tmp 4)), (some 19, LOp.bin BinOp.neq (LX.tmp 18) (LX.con (AV.int IntKind.i64 0))), (some 20, LOp.mv (LX.tmp 19))]⟩, ⟨some (20, false), [(some 21, LOp.mv (LX.tmp
    3)), (some 22, LOp.lenS (LX.tmp 21)), (some 23, LOp.bin BinOp.gtr (LX.tmp 22) (LX.con (AV.int IntKind.i64 3000)))]⟩, ⟨none, [(some 24, LOp.pick (LX.tmp 20) (LX.con (AV.bool true)) (LX.tmp 23))]⟩]).seq (LCode.cond (LX.tmp 24)
    ((LCode.region [⟨none, [(some 25, LOp.call 13 []), (some 2, LOp.mv (LX.tmp 25))]⟩]).seq LCode.ret) LCode.skip)).seq ((LCode.region [⟨none, [(some 5, LOp.mv (LX.con (AV.bool false)))]⟩]).seq (((LCode.region [⟨none, [(some 6,
    LOp.mv (LX.con (AV.int IntKind.i64 0)))]⟩]).seq (LCode.block 0 (((LCode.region [⟨none, [(some 26, LOp.mv (LX.tmp 6)), (some 27, LOp.mv (LX.tmp 3)), (some 28, LOp.lenS (LX.tmp 27)), (some 29, LOp.bin BinOp.leq (LX.tmp 26) (LX.tmp
    28))]⟩]).seq (LCode.cond (LX.tmp 29) LCode.skip (LCode.exit 0))).seq ((LCode.block 1 ((LCode.region [⟨none, [(some 33, LOp.mv (LX.tmp 3)), (some 34, LOp.mv (LX.tmp 6)), (some 35, LOp.slcS (LX.tmp 33) none (some (LX.tmp 34))),
    (some 36, LOp.call 19 [LX.tmp 35]), (some 32, LOp.mv (LX.tmp 36)), (some 37, LOp.extr 0 (LX.tmp 32)), (some 38, LOp.extr 1 (LX.tmp 32)), (some 7, LOp.mv (LX.tmp 37)), (some 8, LOp.mv (LX.tmp 38))]⟩]).seq (((LCode.region [⟨none,
    [(some 39, LOp.mv (LX.tmp 8)), (some 40, LOp.bin BinOp.eql (LX.tmp 39) (LX.con (AV.int IntKind.i64 20))), (some 41, LOp.mv (LX.tmp 40))]⟩, ⟨some (41, true), [(some 42, LOp.mv (LX.tmp 5)), (some 43, LOp.un UnOp.not (LX.tmp
    42))]⟩, ⟨none, [(some 44, LOp.pick (LX.tmp 41) (LX.tmp 43) (LX.con (AV.bool false))), (some 45, LOp.mv (LX.tmp 44))]⟩, ⟨some (45, true), [(some 46, LOp.mv (LX.tmp 6)), (some 47, LOp.bin BinOp.lss (LX.tmp 46) (LX.con (AV.int
    IntKind.i64 6)))]⟩, ⟨none, [(some 48, LOp.pick (LX.tmp 45) (LX.tmp 47) (LX.con (AV.bool false)))]⟩]).seq (LCode.cond (LX.tmp 48) (LCode.exit 1) LCode.skip)).seq (((LCode.region [⟨none, [(some 49, LOp.mv (LX.tmp 8)), (some 50,
    LOp.bin BinOp.neq (LX.tmp 49) (LX.con (AV.int IntKind.i64 0))), (some 51, LOp.mv (LX.tmp 50))]⟩, ⟨some (51, false), [(some 52, LOp.mv (LX.tmp 7)), (some 53, LOp.mv (LX.tmp 3)), (some 54, LOp.lenS (LX.tmp 53)), (some 55, LOp.bin
    BinOp.neq (LX.tmp 52) (LX.tmp 54))]⟩, ⟨none, [(some 56, LOp.pick (LX.tmp 51) (LX.con (AV.bool true)) (LX.tmp 55))]⟩]).seq (LCode.cond (LX.tmp 56) ((LCode.region [⟨none, [(some 2, LOp.mv (LX.con (AV.bool false)))]⟩]).seq
    LCode.ret) LCode.skip)).seq (LCode.region [⟨none, [(some 5, LOp.mv (LX.con (AV.bool true)))]⟩]))))).seq (LCode.region [⟨none, [(some 30, LOp.mv (LX.tmp 6)), (some 31, LOp.bin BinOp.add (LX.tmp 30) (LX.con (AV.int IntKind.i64
    1))), (some 6, LOp.mv (LX.tmp 31))]⟩]))).loop)).seq ((LCode.region [⟨none, [(some 57, LOp.call 13 []), (some 58, LOp.mv (LX.tmp 57))]⟩, ⟨some (58, true), [(some 59, LOp.mv (LX.tmp 5))]⟩, ⟨none, [(some 60, LOp.pick (LX.tmp 58)
    (LX.tmp 59) (LX.con (AV.bool false))), (some 2, LOp.mv (LX.tmp 60))]⟩]).seq LCode.ret))))))
theorem low4 : lowerF prog 4 = some ⟨61, [LRes.tmp 2], B4⟩ := by kernel_rfl

@[irreducible] def B5 : LCode :=
  (LCode.region [⟨none, [(some 6, LOp.box 24 (LX.tmp 0)), (some 12, LOp.mv (LX.con (AV.bool false)))]⟩]).seq (((LCode.region [⟨none, [(some 17, LOp.load true 5 (LX.tmp 6)), (some 18, LOp.call 12 [LX.tmp 17]), (some 19, LOp.bin
    BinOp.gtr (LX.tmp 18) (LX.con (AV.int IntKind.i64 500)))]⟩]).seq (LCode.cond (LX.tmp 19) ((LCode.region [⟨none, [(some 20, LOp.call 13 []), (some 12, LOp.mv (LX.tmp 20))]⟩]).seq LCode.ret) LCode.skip)).seq ((LCode.region [⟨none,
    [(some 21, LOp.mv (LX.tmp 1)), (some 22, LOp.mv (LX.tmp 2)), (some 23, LOp.call 20 [LX.tmp 21, LX.tmp 22]), (some 24, LOp.mv (LX.tmp 1)), (some 25, LOp.mv (LX.tmp 4)), (some 26, LOp.call 21 [LX.tmp 24, LX.tmp 25]), (some 27,
    LOp.mv (LX.tmp 1)), (some 28, LOp.mv (LX.tmp 5)), (some 29, LOp.call 22 [LX.tmp 27, LX.tmp 28]), (some 13, LOp.alloc 24 [AV.int IntKind.i64 0, AV.int IntKind.i64 0, AV.bool false, AV.str [], AV.lit (Value.slice none 0 0)]),
    (some 14, LOp.alloc 24 [AV.int IntKind.i64 0, AV.int IntKind.i64 0, AV.bool false, AV.str [], AV.lit (Value.slice none 0 0)]), (some 15, LOp.alloc 24 [AV.int IntKind.i64 0, AV.int IntKind.i64 0, AV.bool false, AV.str [], AV.lit
    (Value.slice none 0 0)]), (none, LOp.store 5 (LX.tmp 13) (LX.tmp 23)), (none, LOp.store 5 (LX.tmp 14) (LX.tmp 26)), (none, LOp.store 5 (LX.tmp 15) (LX.tmp 29))]⟩]).seq ((LCode.region [⟨none, [(some 30, LOp.load true 5 (LX.tmp
    6)), (some 31, LOp.load true 5 (LX.tmp 13)), (some 32, LOp.bslice 24 5 [LX.tmp 30, LX.tmp 31]), (some 33, LOp.call 23 [LX.tmp 32]), (some 16, LOp.alloc 24 [AV.int IntKind.i64 0, AV.int IntKind.i64 0, AV.bool false, AV.str [],
    AV.lit (Value.slice none 0 0)]), (none, LOp.store 5 (LX.tmp 16) (LX.tmp 33))]⟩]).seq ((LCode.quiet [⟨some 34, none, LOp.call 13 [], false, 0, 0⟩, ⟨some 35, none, LOp.mv (LX.tmp 34), false, 0, 0⟩, ⟨some 36, some (35, true),
    LOp.load true 5 (LX.tmp 13), false, 0, 0⟩, ⟨some 37, some (35, true), LOp.mv (LX.tmp 1), false, 0, 0⟩, ⟨some 38, some (35, true), LOp.mv (LX.tmp 2), false, 0, 0⟩, ⟨some 39, some (35, true), LOp.call 24 [LX.tmp 37, LX.tmp 38],
    false, 0, 0⟩, ⟨some 40, some (35, true), LOp.call 17 [LX.tmp 36, LX.tmp 39], false, 0, 0⟩, ⟨some 41, none, LOp.pick (LX.tmp 35) (LX.tmp 40) (LX.con (AV.bool false)), false, 0, 0⟩, ⟨some 42, none, LOp.mv (LX.tmp 41), false, 0,
    0⟩, ⟨some 43, some (42, true), LOp.load true 5 (LX.tmp 14), false, 0, 0⟩, ⟨some 44, some (42, true), LOp.mv (LX.tmp 1), false, 0, 0⟩, ⟨some 45, some (42, true), LOp.mv (LX.tmp 4), false, 0, 0⟩, ⟨some 46, some (42, true),
    LOp.call 25 [LX.tmp 44, LX.tmp 45], false, 0, 0⟩, ⟨some 47, some (42, true), LOp.call 17 [LX.tmp 43, LX.tmp 46], false, 0, 0⟩, ⟨some 48, none, LOp.pick (LX.tmp 42) (LX.tmp 47) (LX.con (AV.bool false)), false, 0, 0⟩, ⟨some 49,
    none, LOp.mv (LX.tmp 48), false, 0, 0⟩, ⟨some 50, some (49, true), LOp.load true 5 (LX.tmp 15), false, 0, 0⟩, ⟨some 51, some (49, true), LOp.mv (LX.tmp 1), false, 0, 0⟩, ⟨some 52, some (49, true), LOp.mv (LX.tmp 5), false, 0,
    0⟩, ⟨some 53, some (49, true), LOp.call 26 [LX.tmp 51, LX.tmp 52], false, 0, 0⟩, ⟨some 54, some (49, true), LOp.call 17 [LX.tmp 50, LX.tmp 53], false, 0, 0⟩, ⟨some 55, none, LOp.pick (LX.tmp 49) (LX.tmp 54) (LX.con (AV.bool
    false)), false, 0, 0⟩, ⟨some 56, none, LOp.mv (LX.tmp 55), false, 0, 0⟩, ⟨some 57, some (56, true), LOp.load true 5 (LX.tmp 16), false, 0, 0⟩, ⟨some 58, some (56, true), LOp.load true 5 (LX.tmp 6), false, 0, 0⟩, ⟨some 59, some
    (56, true), LOp.load true 5 (LX.tmp 13), false, 0, 0⟩, ⟨some 60, some (56, true), LOp.bslice 24 5 [LX.tmp 58, LX.tmp 59], false, 0, 0⟩, ⟨some 61, some (56, true), LOp.call 27 [LX.tmp 60], false, 0, 0⟩, ⟨some 62, some (56, true),
    LOp.call 17 [LX.tmp 57, LX.tmp 61], false, 0, 0⟩, ⟨some 63, none, LOp.pick (LX.tmp 56) (LX.tmp 62) (LX.con (AV.bool false)), false, 0, 0⟩, ⟨some 64, none, LOp.mv (LX.tmp 63), false, 0, 0⟩, ⟨some 65, some (64, true), LOp.load
    true 5 (LX.tmp 6), false, 0, 0⟩, ⟨some 66, some (64, true), LOp.mv (LX.tmp 3), false, 0, 0⟩, ⟨some 67, some (64, true), LOp.mv (LX.tmp 1), false, 0, 0⟩, ⟨some 68, some (64, true), LOp.call 28 [LX.tmp 65, LX.tmp 66, LX.tmp 67],
    false, 0, 0⟩, ⟨some 69, some (64, true), LOp.load true 5 (LX.tmp 6), false, 0, 0⟩, ⟨some 70, some (64, true), LOp.mv (LX.tmp 3), false, 0, 0⟩, ⟨some 71, some (64, true), LOp.mv (LX.tmp 1), false, 0, 0⟩, ⟨some 72, some (64,
    true), LOp.call 29 [LX.tmp 69, LX.tmp 70, LX.tmp 71], false, 0, 0⟩, ⟨some 73, some (64, true), LOp.call 17 [LX.tmp 68, LX.tmp 72], false, 0, 0⟩, ⟨some 74, none, LOp.pick (LX.tmp 64) (LX.tmp 73) (LX.con (AV.bool false)), false,
    0, 0⟩, ⟨some 75, none, LOp.mv (LX.tmp 74), false, 0, 0⟩, ⟨some 76, some (75, true), LOp.call 23 [LX.con (AV.lit (Value.slice none 0 0))], false, 0, 0⟩, ⟨some 77, some (75, true), LOp.fld false 4 1 (LX.tmp 76), false, 0, 0⟩,
    ⟨some 78, some (75, true), LOp.len (LX.tmp 77), false, 0, 0⟩, ⟨some 79, some (75, true), LOp.bin BinOp.eql (LX.tmp 78) (LX.con (AV.int IntKind.i64 0)), false, 0, 0⟩, ⟨some 80, none, LOp.pick (LX.tmp 75) (LX.tmp 79) (LX.con
    (AV.bool false)), false, 0, 0⟩, ⟨some 81, none, LOp.mv (LX.tmp 80), false, 0, 0⟩, ⟨some 82, some (81, true), LOp.call 23 [LX.con (AV.lit (Value.slice none 0 0))], false, 0, 0⟩, ⟨some 83, some (81, true), LOp.fld false 2 1
    (LX.tmp 82), false, 0, 0⟩, ⟨some 84, none, LOp.pick (LX.tmp 81) (LX.tmp 83) (LX.con (AV.bool false)), false, 0, 0⟩, ⟨some 12, none, LOp.mv (LX.tmp 84), false, 0, 0⟩]).seq LCode.ret))))
theorem low5 : lowerF prog 5 = some ⟨85, [LRes.tmp 12], B5⟩ := by kernel_rfl

@[irreducible] def B6 : LCode :=
  (LCode.region [⟨none, [(some 3, LOp.box 24 (LX.tmp 0)), (some 6, LOp.mv (LX.con (AV.bool false)))]⟩]).seq (((LCode.region [⟨none, [(some 23, LOp.load true 5 (LX.tmp 3)), (some 24, LOp.call 12 [LX.tmp 23]), (some 25, LOp.bin
    BinOp.gtr (LX.tmp 24) (LX.con (AV.int IntKind.i64 500)))]⟩]).seq (LCode.cond (LX.tmp 25) ((LCode.region [⟨none, [(some 26, LOp.call 13 []), (some 6, LOp.mv (LX.tmp 26))]⟩]).seq LCode.ret) LCode.skip)).seq ((LCode.region [⟨none,
    [(some 28, LOp.load true 5 (LX.tmp 3)), (some 29, LOp.mv (LX.tmp 1)), (some 30, LOp.mv (LX.tmp 2)), (some 31, LOp.call 30 [LX.tmp 28, LX.tmp 29, LX.tmp 30]), (some 27, LOp.mv (LX.tmp 31)), (some 32, LOp.extr 0 (LX.tmp 27)),
    (some 33, LOp.extr 1 (LX.tmp 27)), (some 7, LOp.mv (LX.tmp 32)), (some 8, LOp.mv (LX.tmp 33))]⟩]).seq ((LCode.region [⟨none, [(some 35, LOp.load true 5 (LX.tmp 3)), (some 36, LOp.mv (LX.tmp 1)), (some 37, LOp.mv (LX.tmp 2)),
    (some 38, LOp.call 31 [LX.tmp 35, LX.tmp 36, LX.tmp 37]), (some 34, LOp.mv (LX.tmp 38)), (some 39, LOp.extr 0 (LX.tmp 34)), (some 40, LOp.extr 1 (LX.tmp 34)), (some 9, LOp.mv (LX.tmp 39)), (some 10, LOp.mv (LX.tmp 40))]⟩]).seq
    ((LCode.region [⟨none, [(some 42, LOp.load true 5 (LX.tmp 3)), (some 43, LOp.mv (LX.tmp 1)), (some 44, LOp.mv (LX.tmp 2)), (some 45, LOp.call 32 [LX.tmp 42, LX.tmp 43, LX.tmp 44]), (some 41, LOp.mv (LX.tmp 45)), (some 46,
    LOp.extr 0 (LX.tmp 41)), (some 47, LOp.extr 1 (LX.tmp 41)), (some 11, LOp.mv (LX.tmp 46)), (some 12, LOp.mv (LX.tmp 47))]⟩]).seq ((LCode.region [⟨none, [(some 49, LOp.load true 5 (LX.tmp 3)), (some 50, LOp.mv (LX.tmp 1)), (some
    51, LOp.mv (LX.tmp 2)), (some 52, LOp.call 33 [LX.tmp 49, LX.tmp 50, LX.tmp 51]), (some 48, LOp.mv (LX.tmp 52)), (some 53, LOp.extr 0 (LX.tmp 48)), (some 54, LOp.extr 1 (LX.tmp 48)), (some 13, LOp.mv (LX.tmp 53)), (some 14,
    LOp.mv (LX.tmp 54))]⟩]).seq ((LCode.region [⟨none, [(some 56, LOp.load true 5 (LX.tmp 3)), (some 57, LOp.mv (LX.tmp 1)), (some 58, LOp.mv (LX.tmp 2)), (some 59, LOp.call 34 [LX.tmp 56, LX.tmp 57, LX.tmp 58]), (some 55, LOp.mv
    (LX.tmp 59)), (some 60, LOp.extr 0 (LX.tmp 55)), (some 61, LOp.extr 1 (LX.tmp 55)), (some 15, LOp.mv (LX.tmp 60)), (some 16, LOp.mv (LX.tmp 61))]⟩]).seq ((LCode.region [⟨none, [(some 63, LOp.load true 5 (LX.tmp 3)), (some 64,
    LOp.mv (LX.tmp 1)), (some 65, LOp.mv (LX.tmp 2)), (some 66, LOp.call 35 [LX.tmp 63, LX.tmp 64, LX.tmp 65]), (some 62, LOp.mv (LX.tmp 66)), (some 67, LOp.extr 0 (LX.tmp 62)), (some 68, LOp.extr 1 (LX.tmp 62)), (some 17, LOp.mv
    (LX.tmp 67)), (some 18, LOp.mv (LX.tmp 68))]⟩]).seq ((LCode.region [⟨none, [(some 70, LOp.load true 5 (LX.tmp 3)), (some 71, LOp.mv (LX.tmp 1)), (some 72, LOp.mv (LX.tmp 2)), (some 73, LOp.call 36 [LX.tmp 70, LX.tmp 71, LX.tmp
    72]), (some 69, LOp.mv (LX.tmp 73)), (some 74, LOp.extr 0 (LX.tmp 69)), (some 75, LOp.extr 1 (LX.tmp 69)), (some 19, LOp.mv (LX.tmp 74)), (some 20, LOp.mv (LX.tmp 75))]⟩]).seq ((LCode.region [⟨none, [(some 77, LOp.load true 5
    (LX.tmp 3)), (some 78, LOp.mv (LX.tmp 1)), (some 79, LOp.mv (LX.tmp 2)), (some 80, LOp.call 37 [LX.tmp 77, LX.tmp 78, LX.tmp 79]), (some 76, LOp.mv (LX.tmp 80)), (some 81, LOp.extr 0 (LX.tmp 76)), (some 82, LOp.extr 1 (LX.tmp
    76)), (some 21, LOp.mv (LX.tmp 81)), (some 22, LOp.mv (LX.tmp 82))]⟩]).seq ((LCode.region [⟨none, [(some 83, LOp.call 13 []), (some 84, LOp.mv (LX.tmp 83))]⟩, ⟨some (84, true), [(some 85, LOp.mv (LX.tmp 7)), (some 86, LOp.mv
    (LX.tmp 9)), (some 87, LOp.bin BinOp.eql (LX.tmp 85) (LX.tmp 86))]⟩, ⟨none, [(some 88, LOp.pick (LX.tmp 84) (LX.tmp 87) (LX.con (AV.bool false))), (some 89, LOp.mv (LX.tmp 88))]⟩, ⟨some (89, true), [(some 90, LOp.mv (LX.tmp 8)),
    (some 91, LOp.mv (LX.tmp 10)), (some 92, LOp.bin BinOp.eql (LX.tmp 90) (LX.tmp 91))]⟩, ⟨none, [(some 93, LOp.pick (LX.tmp 89) (LX.tmp 92) (LX.con (AV.bool false))), (some 94, LOp.mv (LX.tmp 93))]⟩, ⟨some (94, true), [(some 95,
    LOp.mv (LX.tmp 11)), (some 96, LOp.mv (LX.tmp 13)), (some 97, LOp.bin BinOp.eql (LX.tmp 95) (LX.tmp 96))]⟩, ⟨none, [(some 98, LOp.pick (LX.tmp 94) (LX.tmp 97) (LX.con (AV.bool false))), (some 99, LOp.mv (LX.tmp 98))]⟩, ⟨some
    (99, true), [(some 100, LOp.mv (LX.tmp 12)), (some 101, LOp.mv (LX.tmp 14)), (some 102, LOp.bin BinOp.eql (LX.tmp 100) (LX.tmp 101))]⟩, ⟨none, [(some 103, LOp.pick (LX.tmp 99) (LX.tmp 102) (LX.con (AV.bool false))), (some 104,
    LOp.mv (LX.tmp 103))]⟩, ⟨some (104, true), [(some 105, LOp.mv (LX.tmp 15)), (some 106, LOp.mv (LX.tmp 17)), (some 107, LOp.eqb false (LX.tmp 105) (LX.tmp 106))]⟩, ⟨none, [(some 108, LOp.pick (LX.tmp 104) (LX.tmp 107) (LX.con
    (AV.bool false))), (some 109, LOp.mv (LX.tmp 108))]⟩, ⟨some (109, true), [(some 110, LOp.mv (LX.tmp 16)), (some 111, LOp.mv (LX.tmp 18)), (some 112, LOp.bin BinOp.eql (LX.tmp 110) (LX.tmp 111))]⟩, ⟨none, [(some 113, LOp.pick
    (LX.tmp 109) (LX.tmp 112) (LX.con (AV.bool false))), (some 114, LOp.mv (LX.tmp 113))]⟩, ⟨some (114, true), [(some 115, LOp.mv (LX.tmp 20)), (some 116, LOp.mv (LX.tmp 22)), (some 117, LOp.bin BinOp.eql (LX.tmp 115) (LX.tmp
    116))]⟩, ⟨none, [(some 118, LOp.pick (LX.tmp 114) (LX.tmp 117) (LX.con (AV.bool false))), (some 119, LOp.mv (LX.tmp 118))]⟩, ⟨some (119, true), [(some 120, LOp.mv (LX.tmp 19)), (some 121, LOp.mv (LX.tmp 21)), (some 122, LOp.call
    38 [LX.tmp 120, LX.tmp 121])]⟩, ⟨none, [(some 123, LOp.pick (LX.tmp 119) (LX.tmp 122) (LX.con (AV.bool false))), (some 6, LOp.mv (LX.tmp 123))]⟩]).seq LCode.ret))))))))))
theorem low6 : lowerF prog 6 = some ⟨124, [LRes.tmp 6], B6⟩ := by kernel_rfl

@[irreducible] def B7 : LCode :=
  (LCode.region [⟨none, [(some 2, LOp.mv (LX.con (AV.bool false)))]⟩]).seq (((LCode.region [⟨none, [(some 11, LOp.mv (LX.tmp 0)), (some 12, LOp.lenS (LX.tmp 11)), (some 13, LOp.bin BinOp.gtr (LX.tmp 12) (LX.con (AV.int IntKind.i64
    70000)))]⟩]).seq (LCode.cond (LX.tmp 13) ((LCode.region [⟨none, [(some 14, LOp.call 13 []), (some 2, LOp.mv (LX.tmp 14))]⟩]).seq LCode.ret) LCode.skip)).seq ((LCode.region [⟨none, [(some 16, LOp.mv (LX.tmp 0)), (some 17,
    LOp.call 19 [LX.tmp 16]), (some 15, LOp.mv (LX.tmp 17)), (some 18, LOp.extr 0 (LX.tmp 15)), (some 19, LOp.extr 1 (LX.tmp 15)), (some 3, LOp.mv (LX.tmp 18)), (some 4, LOp.mv (LX.tmp 19))]⟩]).seq ((LCode.region [⟨none, [(some 21,
    LOp.mv (LX.tmp 0)), (some 22, LOp.call 39 [LX.tmp 21]), (some 20, LOp.mv (LX.tmp 22)), (some 23, LOp.extr 0 (LX.tmp 20)), (some 24, LOp.extr 1 (LX.tmp 20)), (some 5, LOp.mv (LX.tmp 23)), (some 6, LOp.mv (LX.tmp 24))]⟩]).seq
    ((LCode.region [⟨none, [(some 26, LOp.mv (LX.tmp 0)), (some 27, LOp.call 40 [LX.tmp 26]), (some 25, LOp.mv (LX.tmp 27)), (some 28, LOp.extr 0 (LX.tmp 25)), (some 29, LOp.extr 1 (LX.tmp 25)), (some 7, LOp.alloc 24 [AV.int
    IntKind.i64 0, AV.int IntKind.i64 0, AV.bool false, AV.str [], AV.lit (Value.slice none 0 0)]), (none, LOp.store 5 (LX.tmp 7) (LX.tmp 28)), (some 8, LOp.mv (LX.tmp 29))]⟩]).seq ((LCode.region [⟨none, [(some 31, LOp.mv (LX.tmp
    0)), (some 32, LOp.call 41 [LX.tmp 31]), (some 30, LOp.mv (LX.tmp 32)), (some 33, LOp.extr 0 (LX.tmp 30)), (some 34, LOp.extr 1 (LX.tmp 30)), (some 9, LOp.alloc 24 [AV.int IntKind.i64 0, AV.int IntKind.i64 0, AV.bool false,
    AV.str [], AV.lit (Value.slice none 0 0)]), (none, LOp.store 5 (LX.tmp 9) (LX.tmp 33)), (some 10, LOp.mv (LX.tmp 34))]⟩]).seq ((LCode.region [⟨none, [(some 35, LOp.call 13 []), (some 36, LOp.mv (LX.tmp 35))]⟩, ⟨some (36, true),
    [(some 37, LOp.mv (LX.tmp 3)), (some 38, LOp.mv (LX.tmp 5)), (some 39, LOp.bin BinOp.eql (LX.tmp 37) (LX.tmp 38))]⟩, ⟨none, [(some 40, LOp.pick (LX.tmp 36) (LX.tmp 39) (LX.con (AV.bool false))), (some 41, LOp.mv (LX.tmp 40))]⟩,
    ⟨some (41, true), [(some 42, LOp.mv (LX.tmp 4)), (some 43, LOp.mv (LX.tmp 6)), (some 44, LOp.bin BinOp.eql (LX.tmp 42) (LX.tmp 43))]⟩, ⟨none, [(some 45, LOp.pick (LX.tmp 41) (LX.tmp 44) (LX.con (AV.bool false))), (some 46,
    LOp.mv (LX.tmp 45))]⟩, ⟨some (46, true), [(some 47, LOp.mv (LX.tmp 8)), (some 48, LOp.mv (LX.tmp 10)), (some 49, LOp.bin BinOp.eql (LX.tmp 47) (LX.tmp 48))]⟩, ⟨none, [(some 50, LOp.pick (LX.tmp 46) (LX.tmp 49) (LX.con (AV.bool
    false))), (some 51, LOp.mv (LX.tmp 50))]⟩, ⟨some (51, true), [(some 52, LOp.load true 5 (LX.tmp 7)), (some 53, LOp.load true 5 (LX.tmp 9)), (some 54, LOp.call 17 [LX.tmp 52, LX.tmp 53])]⟩, ⟨none, [(some 55, LOp.pick (LX.tmp 51)
    (LX.tmp 54) (LX.con (AV.bool false))), (some 2, LOp.mv (LX.tmp 55))]⟩]).seq LCode.ret))))))
theorem low7 : lowerF prog 7 = some ⟨56, [LRes.tmp 2], B7⟩ := by kernel_rfl

@[irreducible] def B12 : LCode :=
  (LCode.region [⟨none, [(some 1, LOp.box 24 (LX.tmp 0)), (some 2, LOp.mv (LX.con (AV.int IntKind.i64 0)))]⟩]).seq ((LCode.region [⟨none, [(some 3, LOp.mv (LX.con (AV.int IntKind.i64 1)))]⟩]).seq (((LCode.region [⟨none, [(some 4,
    LOp.mv (LX.con (AV.int IntKind.i64 0)))]⟩]).seq (LCode.block 0 (((LCode.region [⟨none, [(some 5, LOp.mv (LX.tmp 4)), (some 6, LOp.faddr 4 (LX.tmp 1)), (some 7, LOp.load false 1 (LX.tmp 6)), (some 8, LOp.len (LX.tmp 7)), (some 9,
    LOp.bin BinOp.lss (LX.tmp 5) (LX.tmp 8)), (some 10, LOp.mv (LX.tmp 9))]⟩, ⟨some (10, true), [(some 11, LOp.mv (LX.tmp 3)), (some 12, LOp.bin BinOp.leq (LX.tmp 11) (LX.con (AV.int IntKind.i64 500)))]⟩, ⟨none, [(some 13, LOp.pick
    (LX.tmp 10) (LX.tmp 12) (LX.con (AV.bool false)))]⟩]).seq (LCode.cond (LX.tmp 13) LCode.skip (LCode.exit 0))).seq ((LCode.block 1 (LCode.region [⟨none, [(some 16, LOp.mv (LX.tmp 3)), (some 17, LOp.faddr 4 (LX.tmp 1)), (some 18,
    LOp.load false 1 (LX.tmp 17)), (some 19, LOp.mv (LX.tmp 4)), (some 20, LOp.iaddr 5 (LX.tmp 18) (LX.tmp 19)), (some 21, LOp.load true 5 (LX.tmp 20)), (some 22, LOp.call 12 [LX.tmp 21]), (some 23, LOp.bin BinOp.add (LX.tmp 16)
    (LX.tmp 22)), (some 3, LOp.mv (LX.tmp 23))]⟩])).seq (LCode.region [⟨none, [(some 14, LOp.mv (LX.tmp 4)), (some 15, LOp.bin BinOp.add (LX.tmp 14) (LX.con (AV.int IntKind.i64 1))), (some 4, LOp.mv (LX.tmp 15))]⟩]))).loop)).seq
    ((LCode.region [⟨none, [(some 24, LOp.mv (LX.tmp 3)), (some 2, LOp.mv (LX.tmp 24))]⟩]).seq LCode.ret)))
theorem low12 : lowerF prog 12 = some ⟨25, [LRes.tmp 2], B12⟩ := by kernel_rfl

@[irreducible] def B13 : LCode :=
  (LCode.region [⟨none, [(some 0, LOp.mv (LX.con (AV.bool false)))]⟩]).seq ((LCode.region [⟨none, [(some 6, LOp.call 20 [LX.con (AV.int IntKind.i64 2), LX.con (AV.int IntKind.i64 5)]), (some 7, LOp.call 21 [LX.con (AV.int
    IntKind.i64 4), LX.con (AV.str [97, 98])]), (some 8, LOp.bslice 24 5 [LX.tmp 6, LX.tmp 7]), (some 9, LOp.call 23 [LX.tmp 8]), (some 10, LOp.call 15 [LX.tmp 9]), (some 5, LOp.mv (LX.tmp 10)), (some 11, LOp.extr 0 (LX.tmp 5)),
    (some 12, LOp.extr 1 (LX.tmp 5)), (some 1, LOp.mv (LX.tmp 11)), (some 2, LOp.mv (LX.tmp 12))]⟩]).seq ((LCode.region [⟨none, [(some 14, LOp.call 19 [LX.con (AV.str [48, 7])]), (some 13, LOp.mv (LX.tmp 14)), (some 15, LOp.extr 0
    (LX.tmp 13)), (some 16, LOp.extr 1 (LX.tmp 13)), (some 3, LOp.mv (LX.tmp 15)), (some 4, LOp.mv (LX.tmp 16))]⟩]).seq ((LCode.region [⟨none, [(some 17, LOp.mv (LX.tmp 2)), (some 18, LOp.bin BinOp.eql (LX.tmp 17) (LX.con (AV.int
    IntKind.i64 0))), (some 19, LOp.mv (LX.tmp 18))]⟩, ⟨some (19, true), [(some 20, LOp.mv (LX.tmp 4)), (some 21, LOp.bin BinOp.eql (LX.tmp 20) (LX.con (AV.int IntKind.i64 0)))]⟩, ⟨none, [(some 22, LOp.pick (LX.tmp 19) (LX.tmp 21)
    (LX.con (AV.bool false))), (some 23, LOp.mv (LX.tmp 22))]⟩, ⟨some (23, true), [(some 24, LOp.mv (LX.tmp 1)), (some 25, LOp.bin BinOp.eql (LX.tmp 24) (LX.con (AV.str [48, 7, 2, 1, 5, 4, 2, 97, 98])))]⟩, ⟨none, [(some 26, LOp.pick
    (LX.tmp 23) (LX.tmp 25) (LX.con (AV.bool false))), (some 27, LOp.mv (LX.tmp 26))]⟩, ⟨some (27, true), [(some 28, LOp.mv (LX.tmp 3)), (some 29, LOp.bin BinOp.eql (LX.tmp 28) (LX.con (AV.int IntKind.i64 9)))]⟩, ⟨none, [(some 30,
    LOp.pick (LX.tmp 27) (LX.tmp 29) (LX.con (AV.bool false))), (some 0, LOp.mv (LX.tmp 30))]⟩]).seq LCode.ret)))
theorem low13 : lowerF prog 13 = some ⟨31, [LRes.tmp 0], B13⟩ := by kernel_rfl

@[irreducible] def B14 : LCode :=
  (LCode.region [⟨none, [(some 1, LOp.box 24 (LX.tmp 0)), (some 2, LOp.alloc 24 [AV.int IntKind.i64 0, AV.int IntKind.i64 0, AV.bool false, AV.str [], AV.lit (Value.slice none 0 0)])]⟩]).seq ((LCode.region [⟨none, [(some 5,
    LOp.faddr 4 (LX.tmp 1)), (some 6, LOp.load false 1 (LX.tmp 5)), (some 7, LOp.append false 24 5 64 (LX.con (AV.lit (Value.slice none 0 0))) (LX.tmp 6)), (some 3, LOp.mv (LX.tmp 7))]⟩]).seq (((LCode.region [⟨none, [(some 4, LOp.mv
    (LX.con (AV.int IntKind.i64 0)))]⟩]).seq (LCode.block 0 (((LCode.region [⟨none, [(some 8, LOp.mv (LX.tmp 4)), (some 9, LOp.mv (LX.tmp 3)), (some 10, LOp.len (LX.tmp 9)), (some 11, LOp.bin BinOp.lss (LX.tmp 8) (LX.tmp
    10))]⟩]).seq (LCode.cond (LX.tmp 11) LCode.skip (LCode.exit 0))).seq ((LCode.block 1 (LCode.region [⟨none, [(some 14, LOp.mv (LX.tmp 3)), (some 15, LOp.mv (LX.tmp 4)), (some 16, LOp.mv (LX.tmp 3)), (some 17, LOp.mv (LX.tmp 4)),
    (some 18, LOp.iaddr 5 (LX.tmp 16) (LX.tmp 17)), (some 19, LOp.load true 5 (LX.tmp 18)), (some 20, LOp.call 14 [LX.tmp 19]), (some 21, LOp.iaddr 5 (LX.tmp 14) (LX.tmp 15)), (none, LOp.store 5 (LX.tmp 21) (LX.tmp 20))]⟩])).seq
    (LCode.region [⟨none, [(some 12, LOp.mv (LX.tmp 4)), (some 13, LOp.bin BinOp.add (LX.tmp 12) (LX.con (AV.int IntKind.i64 1))), (some 4, LOp.mv (LX.tmp 13))]⟩]))).loop)).seq ((LCode.region [⟨none, [(some 22, LOp.mv (LX.tmp 3)),
    (some 23, LOp.build [AV.int IntKind.i64 0, AV.int IntKind.i64 0, AV.bool false, AV.str [], AV.lit (Value.slice none 0 0)] [(1, 1, LX.con (AV.int IntKind.i64 (-77)))]), (some 24, LOp.bslice 24 5 [LX.tmp 23]), (some 25, LOp.append
    false 24 5 64 (LX.tmp 22) (LX.tmp 24)), (some 26, LOp.mv (LX.tmp 3)), (some 27, LOp.len (LX.tmp 26)), (some 28, LOp.slc 5 (LX.tmp 25) none (some (LX.tmp 27))), (some 29, LOp.faddr 4 (LX.tmp 1)), (none, LOp.store 1 (LX.tmp 29)
    (LX.tmp 28))]⟩]).seq ((LCode.region [⟨none, [(some 30, LOp.load true 5 (LX.tmp 1)), (none, LOp.store 5 (LX.tmp 2) (LX.tmp 30))]⟩]).seq LCode.ret))))
theorem low14 : lowerF prog 14 = some ⟨31, [LRes.cell 2 true 5], B14⟩ := by kernel_rfl

@[irreducible] def B15 : LCode :=
  (LCode.region [⟨none, [(some 1, LOp.box 24 (LX.tmp 0)), (some 2, LOp.mv (LX.con (AV.str []))), (some 3, LOp.mv (LX.con (AV.int IntKind.i64 0)))]⟩]).seq ((LCode.block 0 ((LCode.region [⟨none, [(some 6, LOp.load true 5 (LX.tmp 1)),
    (some 7, LOp.call 42 [LX.tmp 6, LX.con (AV.int IntKind.i64 0), LX.con (AV.fn (Fn.func 43) [])]), (some 8, LOp.un UnOp.not (LX.tmp 7)), (some 5, LOp.mv (LX.tmp 8))]⟩]).seq (LCode.cond (LX.tmp 5) ((LCode.region [⟨none, [(some 2,
    LOp.mv (LX.con (AV.str []))), (some 3, LOp.mv (LX.con (AV.int IntKind.i64 21)))]⟩]).seq LCode.ret) ((LCode.region [⟨none, [(some 10, LOp.load true 5 (LX.tmp 1)), (some 11, LOp.call 42 [LX.tmp 10, LX.con (AV.int IntKind.i64 0),
    LX.con (AV.fn (Fn.func 44) [])]), (some 12, LOp.un UnOp.not (LX.tmp 11)), (some 9, LOp.mv (LX.tmp 12))]⟩]).seq (LCode.cond (LX.tmp 9) ((LCode.region [⟨none, [(some 2, LOp.mv (LX.con (AV.str []))), (some 3, LOp.mv (LX.con (AV.int
    IntKind.i64 24)))]⟩]).seq LCode.ret) ((LCode.region [⟨none, [(some 14, LOp.load true 5 (LX.tmp 1)), (some 15, LOp.call 45 [LX.tmp 14, LX.con (AV.int IntKind.i64 0)]), (some 13, LOp.mv (LX.tmp 15))]⟩]).seq (LCode.cond (LX.tmp 13)
    ((LCode.region [⟨none, [(some 2, LOp.mv (LX.con (AV.str []))), (some 3, LOp.mv (LX.con (AV.int IntKind.i64 23)))]⟩]).seq LCode.ret) ((LCode.region [⟨none, [(some 17, LOp.load true 5 (LX.tmp 1)), (some 18, LOp.call 46 [LX.tmp
    17]), (some 19, LOp.bin BinOp.gtr (LX.tmp 18) (LX.con (AV.int IntKind.i64 65536))), (some 16, LOp.mv (LX.tmp 19))]⟩]).seq (LCode.cond (LX.tmp 16) ((LCode.region [⟨none, [(some 2, LOp.mv (LX.con (AV.str []))), (some 3, LOp.mv
    (LX.con (AV.int IntKind.i64 2)))]⟩]).seq LCode.ret) LCode.skip))))))))).seq ((LCode.region [⟨none, [(some 4, LOp.alloc 60 [AV.lit (Value.pointer none), AV.lit (Value.slice none 0 0)])]⟩]).seq ((LCode.region [⟨none, [(some 20,
    LOp.load true 5 (LX.tmp 1)), (some 21, LOp.call 47 [LX.tmp 4, LX.tmp 20])]⟩]).seq ((LCode.region [⟨none, [(some 22, LOp.call 48 [LX.tmp 4]), (some 2, LOp.mv (LX.tmp 22)), (some 3, LOp.mv (LX.con (AV.int IntKind.i64 0)))]⟩]).seq
    LCode.ret))))
theorem low15 : lowerF prog 15 = some ⟨23, [LRes.tmp 2, LRes.tmp 3], B15⟩ := by kernel_rfl

@[irreducible] def B16 : LCode :=
  (LCode.region [⟨none, [(some 1, LOp.box 24 (LX.tmp 0)), (some 2, LOp.mv (LX.con (AV.str []))), (some 3, LOp.mv (LX.con (AV.int IntKind.i64 0)))]⟩]).seq ((LCode.region [⟨none, [(some 8, LOp.load true 5 (LX.tmp 1)), (some 9,
    LOp.call 49 [LX.tmp 8, LX.con (AV.int IntKind.i64 0)]), (some 7, LOp.mv (LX.tmp 9)), (some 10, LOp.extr 0 (LX.tmp 7)), (some 11, LOp.extr 1 (LX.tmp 7)), (some 12, LOp.extr 2 (LX.tmp 7)), (some 4, LOp.mv (LX.tmp 10)), (some 5,
    LOp.mv (LX.tmp 11)), (some 6, LOp.mv (LX.tmp 12))]⟩]).seq ((LCode.block 0 ((LCode.region [⟨none, [(some 14, LOp.mv (LX.tmp 4)), (some 13, LOp.mv (LX.tmp 14))]⟩]).seq (LCode.cond (LX.tmp 13) ((LCode.region [⟨none, [(some 2,
    LOp.mv (LX.con (AV.str []))), (some 3, LOp.mv (LX.con (AV.int IntKind.i64 21)))]⟩]).seq LCode.ret) ((LCode.region [⟨none, [(some 16, LOp.mv (LX.tmp 5)), (some 15, LOp.mv (LX.tmp 16))]⟩]).seq (LCode.cond (LX.tmp 15)
    ((LCode.region [⟨none, [(some 2, LOp.mv (LX.con (AV.str []))), (some 3, LOp.mv (LX.con (AV.int IntKind.i64 24)))]⟩]).seq LCode.ret) ((LCode.region [⟨none, [(some 18, LOp.mv (LX.tmp 6)), (some 17, LOp.mv (LX.tmp 18))]⟩]).seq
    (LCode.cond (LX.tmp 17) ((LCode.region [⟨none, [(some 2, LOp.mv (LX.con (AV.str []))), (some 3, LOp.mv (LX.con (AV.int IntKind.i64 23)))]⟩]).seq LCode.ret) ((LCode.region [⟨none, [(some 20, LOp.load true 5 (LX.tmp 1)), (some 21,
    LOp.call 50 [LX.tmp 20]), (some 22, LOp.bin BinOp.gtr (LX.tmp 21) (LX.con (AV.int IntKind.i64 65536))), (some 19, LOp.mv (LX.tmp 22))]⟩]).seq (LCode.cond (LX.tmp 19) ((LCode.region [⟨none, [(some 2, LOp.mv (LX.con (AV.str []))),
    (some 3, LOp.mv (LX.con (AV.int IntKind.i64 2)))]⟩]).seq LCode.ret) LCode.skip))))))))).seq ((LCode.region [⟨none, [(some 23, LOp.load true 5 (LX.tmp 1)), (some 24, LOp.call 51 [LX.con (AV.lit (Value.slice none 0 0)), LX.tmp
    23]), (some 25, LOp.cvt Cvt.b2s (LX.tmp 24)), (some 2, LOp.mv (LX.tmp 25)), (some 3, LOp.mv (LX.con (AV.int IntKind.i64 0)))]⟩]).seq LCode.ret)))
theorem low16 : lowerF prog 16 = some ⟨26, [LRes.tmp 2, LRes.tmp 3], B16⟩ := by kernel_rfl

@[irreducible] def B17 : LCode :=
  (LCode.region [⟨none, [(some 2, LOp.box 24 (LX.tmp 0)), (some 3, LOp.box 24 (LX.tmp 1)), (some 4, LOp.mv (LX.con (AV.bool false)))]⟩]).seq (((LCode.region [⟨none, [(some 6, LOp.faddr 0 (LX.tmp 2)), (some 7, LOp.load false 1
    (LX.tmp 6)), (some 8, LOp.faddr 0 (LX.tmp 3)), (some 9, LOp.load false 1 (LX.tmp 8)), (some 10, LOp.bin BinOp.neq (LX.tmp 7) (LX.tmp 9)), (some 11, LOp.mv (LX.tmp 10))]⟩, ⟨some (11, false), [(some 12, LOp.faddr 1 (LX.tmp 2)),
    (some 13, LOp.load false 1 (LX.tmp 12)), (some 14, LOp.faddr 1 (LX.tmp 3)), (some 15, LOp.load false 1 (LX.tmp 14)), (some 16, LOp.bin BinOp.neq (LX.tmp 13) (LX.tmp 15))]⟩, ⟨none, [(some 17, LOp.pick (LX.tmp 11) (LX.con (AV.bool
    true)) (LX.tmp 16)), (some 18, LOp.mv (LX.tmp 17))]⟩, ⟨some (18, false), [(some 19, LOp.faddr 2 (LX.tmp 2)), (some 20, LOp.load false 1 (LX.tmp 19)), (some 21, LOp.faddr 2 (LX.tmp 3)), (some 22, LOp.load false 1 (LX.tmp 21)),
    (some 23, LOp.eqb true (LX.tmp 20) (LX.tmp 22))]⟩, ⟨none, [(some 24, LOp.pick (LX.tmp 18) (LX.con (AV.bool true)) (LX.tmp 23)), (some 25, LOp.mv (LX.tmp 24))]⟩, ⟨some (25, false), [(some 26, LOp.faddr 3 (LX.tmp 2)), (some 27,
    LOp.load false 1 (LX.tmp 26)), (some 28, LOp.faddr 3 (LX.tmp 3)), (some 29, LOp.load false 1 (LX.tmp 28)), (some 30, LOp.bin BinOp.neq (LX.tmp 27) (LX.tmp 29))]⟩, ⟨none, [(some 31, LOp.pick (LX.tmp 25) (LX.con (AV.bool true))
    (LX.tmp 30)), (some 32, LOp.mv (LX.tmp 31))]⟩, ⟨some (32, false), [(some 33, LOp.faddr 4 (LX.tmp 2)), (some 34, LOp.load false 1 (LX.tmp 33)), (some 35, LOp.len (LX.tmp 34)), (some 36, LOp.faddr 4 (LX.tmp 3)), (some 37, LOp.load
    false 1 (LX.tmp 36)), (some 38, LOp.len (LX.tmp 37)), (some 39, LOp.bin BinOp.neq (LX.tmp 35) (LX.tmp 38))]⟩, ⟨none, [(some 40, LOp.pick (LX.tmp 32) (LX.con (AV.bool true)) (LX.tmp 39))]⟩]).seq (LCode.cond (LX.tmp 40)
    ((LCode.region [⟨none, [(some 4, LOp.mv (LX.con (AV.bool false)))]⟩]).seq LCode.ret) LCode.skip)).seq (((LCode.region [⟨none, [(some 5, LOp.mv (LX.con (AV.int IntKind.i64 0)))]⟩]).seq (LCode.block 0 (((LCode.region [⟨none,
    [(some 41, LOp.mv (LX.tmp 5)), (some 42, LOp.faddr 4 (LX.tmp 2)), (some 43, LOp.load false 1 (LX.tmp 42)), (some 44, LOp.len (LX.tmp 43)), (some 45, LOp.bin BinOp.lss (LX.tmp 41) (LX.tmp 44))]⟩]).seq (LCode.cond (LX.tmp 45)
    LCode.skip (LCode.exit 0))).seq ((LCode.block 1 ((LCode.quiet [⟨some 48, none, LOp.faddr 4 (LX.tmp 2), false, 0, 0⟩, ⟨some 49, none, LOp.load false 1 (LX.tmp 48), false, 0, 0⟩, ⟨some 50, none, LOp.mv (LX.tmp 5), false, 0, 0⟩,
    ⟨some 51, none, LOp.iaddr 5 (LX.tmp 49) (LX.tmp 50), false, 0, 0⟩, ⟨some 52, none, LOp.load true 5 (LX.tmp 51), false, 0, 0⟩, ⟨some 53, none, LOp.faddr 4 (LX.tmp 3), false, 0, 0⟩, ⟨some 54, none, LOp.load false 1 (LX.tmp 53),
    false, 0, 0⟩, ⟨some 55, none, LOp.mv (LX.tmp 5), false, 0, 0⟩, ⟨some 56, none, LOp.iaddr 5 (LX.tmp 54) (LX.tmp 55), false, 0, 0⟩, ⟨some 57, none, LOp.load true 5 (LX.tmp 56), false, 0, 0⟩, ⟨some 58, none, LOp.call 17 [LX.tmp 52,
    LX.tmp 57], false, 0, 0⟩, ⟨some 59, none, LOp.un UnOp.not (LX.tmp 58), false, 0, 0⟩]).seq (LCode.cond (LX.tmp 59) ((LCode.region [⟨none, [(some 4, LOp.mv (LX.con (AV.bool false)))]⟩]).seq LCode.ret) LCode.skip))).seq
    (LCode.region [⟨none, [(some 46, LOp.mv (LX.tmp 5)), (some 47, LOp.bin BinOp.add (LX.tmp 46) (LX.con (AV.int IntKind.i64 1))), (some 5, LOp.mv (LX.tmp 47))]⟩]))).loop)).seq ((LCode.region [⟨none, [(some 4, LOp.mv (LX.con
    (AV.bool true)))]⟩]).seq LCode.ret)))
theorem low17 : lowerF prog 17 = some ⟨60, [LRes.tmp 4], B17⟩ := by kernel_rfl

@[irreducible] def B18 : LCode :=
  (LCode.region [⟨none, [(some 1, LOp.box 24 (LX.tmp 0)), (some 2, LOp.mv (LX.con (AV.bool false)))]⟩]).seq (((LCode.region [⟨none, [(some 3, LOp.mv (LX.con (AV.int IntKind.i64 0)))]⟩]).seq (LCode.block 0 (((LCode.region [⟨none,
    [(some 4, LOp.mv (LX.tmp 3)), (some 5, LOp.faddr 4 (LX.tmp 1)), (some 6, LOp.load false 1 (LX.tmp 5)), (some 7, LOp.len (LX.tmp 6)), (some 8, LOp.bin BinOp.lss (LX.tmp 4) (LX.tmp 7))]⟩]).seq (LCode.cond (LX.tmp 8) LCode.skip
    (LCode.exit 0))).seq ((LCode.block 1 ((LCode.region [⟨none, [(some 11, LOp.faddr 4 (LX.tmp 1)), (some 12, LOp.load false 1 (LX.tmp 11)), (some 13, LOp.mv (LX.tmp 3)), (some 14, LOp.iaddr 5 (LX.tmp 12) (LX.tmp 13)), (some 15,
    LOp.load true 5 (LX.tmp 14)), (some 16, LOp.call 18 [LX.tmp 15]), (some 17, LOp.un UnOp.not (LX.tmp 16))]⟩]).seq (LCode.cond (LX.tmp 17) ((LCode.region [⟨none, [(some 2, LOp.mv (LX.con (AV.bool false)))]⟩]).seq LCode.ret)
    LCode.skip))).seq (LCode.region [⟨none, [(some 9, LOp.mv (LX.tmp 3)), (some 10, LOp.bin BinOp.add (LX.tmp 9) (LX.con (AV.int IntKind.i64 1))), (some 3, LOp.mv (LX.tmp 10))]⟩]))).loop)).seq ((LCode.quiet [⟨some 18, none,
    LOp.faddr 4 (LX.tmp 1), false, 0, 0⟩, ⟨some 19, none, LOp.load false 1 (LX.tmp 18), false, 0, 0⟩, ⟨some 20, none, LOp.faddr 4 (LX.tmp 1), false, 0, 0⟩, ⟨some 21, none, LOp.load false 1 (LX.tmp 20), false, 0, 0⟩, ⟨some 22, none,
    LOp.len (LX.tmp 21), false, 0, 0⟩, ⟨some 23, none, LOp.bin BinOp.add (LX.tmp 22) (LX.con (AV.int IntKind.i64 1)), false, 0, 0⟩, ⟨some 24, none, LOp.slc 5 (LX.tmp 19) none (some (LX.tmp 23)), false, 0, 0⟩, ⟨some 25, none,
    LOp.faddr 4 (LX.tmp 1), false, 0, 0⟩, ⟨some 26, none, LOp.load false 1 (LX.tmp 25), false, 0, 0⟩, ⟨some 27, none, LOp.len (LX.tmp 26), false, 0, 0⟩, ⟨some 28, none, LOp.iaddr 5 (LX.tmp 24) (LX.tmp 27), false, 0, 0⟩, ⟨some 29,
    none, LOp.faddr 1 (LX.tmp 28), false, 0, 0⟩, ⟨some 30, none, LOp.load false 1 (LX.tmp 29), false, 0, 0⟩, ⟨some 31, none, LOp.bin BinOp.eql (LX.tmp 30) (LX.con (AV.int IntKind.i64 (-77))), false, 0, 0⟩, ⟨some 2, none, LOp.mv
    (LX.tmp 31), false, 0, 0⟩]).seq LCode.ret))
theorem low18 : lowerF prog 18 = some ⟨32, [LRes.tmp 2], B18⟩ := by kernel_rfl

@[irreducible] def B19 : LCode :=
  (LCode.region [⟨none, [(some 2, LOp.mv (LX.con (AV.int IntKind.i64 0))), (some 3, LOp.mv (LX.con (AV.int IntKind.i64 0)))]⟩]).seq ((LCode.region [⟨none, [(some 8, LOp.mv (LX.tmp 0)), (some 9, LOp.call 52 [LX.tmp 8]), (some 7,
    LOp.mv (LX.tmp 9)), (some 10, LOp.extr 0 (LX.tmp 7)), (some 11, LOp.extr 1 (LX.tmp 7)), (some 12, LOp.extr 2 (LX.tmp 7)), (some 4, LOp.mv (LX.tmp 10)), (some 5, LOp.mv (LX.tmp 11)), (some 6, LOp.mv (LX.tmp 12))]⟩]).seq
    ((LCode.region [⟨none, [(some 13, LOp.mv (LX.tmp 4)), (some 14, LOp.mv (LX.tmp 5)), (some 15, LOp.bin BinOp.add (LX.tmp 13) (LX.tmp 14)), (some 16, LOp.mv (LX.tmp 6)), (some 2, LOp.mv (LX.tmp 15)), (some 3, LOp.mv (LX.tmp
    16))]⟩]).seq LCode.ret))
theorem low19 : lowerF prog 19 = some ⟨17, [LRes.tmp 2, LRes.tmp 3], B19⟩ := by kernel_rfl

@[irreducible] def B20 : LCode :=
  (LCode.region [⟨none, [(some 4, LOp.alloc 24 [AV.int IntKind.i64 0, AV.int IntKind.i64 0, AV.bool false, AV.str [], AV.lit (Value.slice none 0 0)])]⟩]).seq ((LCode.region [⟨none, [(some 5, LOp.mv (LX.tmp 0)), (some 6, LOp.mv
    (LX.tmp 1)), (some 7, LOp.call 53 [LX.tmp 6]), (some 8, LOp.call 21 [LX.tmp 5, LX.tmp 7]), (none, LOp.store 5 (LX.tmp 4) (LX.tmp 8))]⟩]).seq LCode.ret)
theorem low20 : lowerF prog 20 = some ⟨9, [LRes.cell 4 true 5], B20⟩ := by kernel_rfl

@[irreducible] def B21 : LCode :=
  (LCode.region [⟨none, [(some 4, LOp.alloc 24 [AV.int IntKind.i64 0, AV.int IntKind.i64 0, AV.bool false, AV.str [], AV.lit (Value.slice none 0 0)])]⟩]).seq ((LCode.region [⟨none, [(some 5, LOp.mv (LX.tmp 0)), (some 6, LOp.mv
    (LX.tmp 1)), (some 7, LOp.build [AV.int IntKind.i64 0, AV.int IntKind.i64 0, AV.bool false, AV.str [], AV.lit (Value.slice none 0 0)] [(1, 1, LX.tmp 5), (3, 1, LX.tmp 6)]), (none, LOp.store 5 (LX.tmp 4) (LX.tmp 7))]⟩]).seq
    LCode.ret)
theorem low21 : lowerF prog 21 = some ⟨8, [LRes.cell 4 true 5], B21⟩ := by kernel_rfl

@[irreducible] def B22 : LCode :=
  (LCode.region [⟨none, [(some 4, LOp.alloc 24 [AV.int IntKind.i64 0, AV.int IntKind.i64 0, AV.bool false, AV.str [], AV.lit (Value.slice none 0 0)])]⟩]).seq (((LCode.region [⟨none, [(some 5, LOp.mv (LX.tmp 1))]⟩]).seq (LCode.cond
    (LX.tmp 5) ((LCode.region [⟨none, [(some 6, LOp.mv (LX.tmp 0)), (some 7, LOp.call 21 [LX.tmp 6, LX.con (AV.str [255])]), (none, LOp.store 5 (LX.tmp 4) (LX.tmp 7))]⟩]).seq LCode.ret) LCode.skip)).seq ((LCode.region [⟨none, [(some
    8, LOp.mv (LX.tmp 0)), (some 9, LOp.call 21 [LX.tmp 8, LX.con (AV.str [0])]), (none, LOp.store 5 (LX.tmp 4) (LX.tmp 9))]⟩]).seq LCode.ret))
theorem low22 : lowerF prog 22 = some ⟨10, [LRes.cell 4 true 5], B22⟩ := by kernel_rfl

@[irreducible] def B23 : LCode :=
  (LCode.region [⟨none, [(some 2, LOp.alloc 24 [AV.int IntKind.i64 0, AV.int IntKind.i64 0, AV.bool false, AV.str [], AV.lit (Value.slice none 0 0)])]⟩]).seq ((LCode.region [⟨none, [(some 3, LOp.mv (LX.tmp 0)), (some 4, LOp.call 54
    [LX.tmp 3]), (some 5, LOp.build [AV.int IntKind.i64 0, AV.int IntKind.i64 0, AV.bool false, AV.str [], AV.lit (Value.slice none 0 0)] [(1, 1, LX.con (AV.int IntKind.i64 16)), (2, 1, LX.con (AV.bool true)), (4, 1, LX.tmp 4)]),
    (none, LOp.store 5 (LX.tmp 2) (LX.tmp 5))]⟩]).seq LCode.ret)
theorem low23 : lowerF prog 23 = some ⟨6, [LRes.cell 2 true 5], B23⟩ := by kernel_rfl

@[irreducible] def B24 : LCode :=
  (LCode.region [⟨none, [(some 4, LOp.alloc 24 [AV.int IntKind.i64 0, AV.int IntKind.i64 0, AV.bool false, AV.str [], AV.lit (Value.slice none 0 0)])]⟩]).seq ((LCode.region [⟨none, [(some 5, LOp.mv (LX.tmp 0)), (some 6, LOp.mv
    (LX.tmp 1)), (some 7, LOp.call 55 [LX.tmp 6]), (some 8, LOp.build [AV.int IntKind.i64 0, AV.int IntKind.i64 0, AV.bool false, AV.str [], AV.lit (Value.slice none 0 0)] [(1, 1, LX.tmp 5), (3, 1, LX.tmp 7)]), (none, LOp.store 5
    (LX.tmp 4) (LX.tmp 8))]⟩]).seq LCode.ret)
theorem low24 : lowerF prog 24 = some ⟨9, [LRes.cell 4 true 5], B24⟩ := by kernel_rfl

@[irreducible] def B25 : LCode :=
  (LCode.region [⟨none, [(some 4, LOp.alloc 24 [AV.int IntKind.i64 0, AV.int IntKind.i64 0, AV.bool false, AV.str [], AV.lit (Value.slice none 0 0)])]⟩]).seq ((LCode.region [⟨none, [(some 5, LOp.mv (LX.tmp 0)), (some 6, LOp.mv
    (LX.tmp 1)), (some 7, LOp.build [AV.int IntKind.i64 0, AV.int IntKind.i64 0, AV.bool false, AV.str [], AV.lit (Value.slice none 0 0)] [(1, 1, LX.tmp 5), (3, 1, LX.tmp 6)]), (none, LOp.store 5 (LX.tmp 4) (LX.tmp 7))]⟩]).seq
    LCode.ret)
theorem low25 : lowerF prog 25 = some ⟨8, [LRes.cell 4 true 5], B25⟩ := by kernel_rfl

@[irreducible] def B26 : LCode :=
  (LCode.region [⟨none, [(some 4, LOp.alloc 24 [AV.int IntKind.i64 0, AV.int IntKind.i64 0, AV.bool false, AV.str [], AV.lit (Value.slice none 0 0)])]⟩]).seq (((LCode.region [⟨none, [(some 5, LOp.mv (LX.tmp 1))]⟩]).seq (LCode.cond
    (LX.tmp 5) ((LCode.region [⟨none, [(some 6, LOp.mv (LX.tmp 0)), (some 7, LOp.build [AV.int IntKind.i64 0, AV.int IntKind.i64 0, AV.bool false, AV.str [], AV.lit (Value.slice none 0 0)] [(1, 1, LX.tmp 6), (3, 1, LX.con (AV.str
    [255]))]), (none, LOp.store 5 (LX.tmp 4) (LX.tmp 7))]⟩]).seq LCode.ret) LCode.skip)).seq ((LCode.region [⟨none, [(some 8, LOp.mv (LX.tmp 0)), (some 9, LOp.build [AV.int IntKind.i64 0, AV.int IntKind.i64 0, AV.bool false, AV.str
    [], AV.lit (Value.slice none 0 0)] [(1, 1, LX.tmp 8), (3, 1, LX.con (AV.str [0]))]), (none, LOp.store 5 (LX.tmp 4) (LX.tmp 9))]⟩]).seq LCode.ret))
theorem low26 : lowerF prog 26 = some ⟨10, [LRes.cell 4 true 5], B26⟩ := by kernel_rfl

@[irreducible] def B27 : LCode :=
  (LCode.region [⟨none, [(some 2, LOp.alloc 24 [AV.int IntKind.i64 0, AV.int IntKind.i64 0, AV.bool false, AV.str [], AV.lit (Value.slice none 0 0)])]⟩]).seq ((LCode.region [⟨none, [(some 3, LOp.mv (LX.tmp 0)), (some 4, LOp.build
    [AV.int IntKind.i64 0, AV.int IntKind.i64 0, AV.bool false, AV.str [], AV.lit (Value.slice none 0 0)] [(1, 1, LX.con (AV.int IntKind.i64 16)), (2, 1, LX.con (AV.bool true)), (4, 1, LX.tmp 3)]), (none, LOp.store 5 (LX.tmp 2)
    (LX.tmp 4))]⟩]).seq LCode.ret)
theorem low27 : lowerF prog 27 = some ⟨5, [LRes.cell 2 true 5], B27⟩ := by kernel_rfl

@[irreducible] def B28 : LCode :=
  (LCode.region [⟨none, [(some 3, LOp.box 24 (LX.tmp 0)), (some 6, LOp.alloc 24 [AV.int IntKind.i64 0, AV.int IntKind.i64 0, AV.bool false, AV.str [], AV.lit (Value.slice none 0 0)])]⟩]).seq ((LCode.region [⟨none, [(some 7, LOp.mv
    (LX.tmp 1)), (some 8, LOp.mv (LX.tmp 2)), (some 9, LOp.faddr 4 (LX.tmp 3)), (some 10, LOp.load false 1 (LX.tmp 9)), (some 11, LOp.call 54 [LX.tmp 10]), (some 12, LOp.faddr 0 (LX.tmp 3)), (none, LOp.store 1 (LX.tmp 12) (LX.tmp
    7)), (some 13, LOp.faddr 1 (LX.tmp 3)), (none, LOp.store 1 (LX.tmp 13) (LX.tmp 8)), (some 14, LOp.faddr 4 (LX.tmp 3)), (none, LOp.store 1 (LX.tmp 14) (LX.tmp 11))]⟩]).seq ((LCode.region [⟨none, [(some 15, LOp.load true 5 (LX.tmp
    3)), (none, LOp.store 5 (LX.tmp 6) (LX.tmp 15))]⟩]).seq LCode.ret))
theorem low28 : lowerF prog 28 = some ⟨16, [LRes.cell 6 true 5], B28⟩ := by kernel_rfl

@[irreducible] def B29 : LCode :=
  (LCode.region [⟨none, [(some 3, LOp.box 24 (LX.tmp 0)), (some 6, LOp.alloc 24 [AV.int IntKind.i64 0, AV.int IntKind.i64 0, AV.bool false, AV.str [], AV.lit (Value.slice none 0 0)])]⟩]).seq ((LCode.region [⟨none, [(some 7, LOp.mv
    (LX.tmp 1)), (some 8, LOp.mv (LX.tmp 2)), (some 9, LOp.faddr 0 (LX.tmp 3)), (none, LOp.store 1 (LX.tmp 9) (LX.tmp 7)), (some 10, LOp.faddr 1 (LX.tmp 3)), (none, LOp.store 1 (LX.tmp 10) (LX.tmp 8))]⟩]).seq ((LCode.region [⟨none,
    [(some 11, LOp.load true 5 (LX.tmp 3)), (none, LOp.store 5 (LX.tmp 6) (LX.tmp 11))]⟩]).seq LCode.ret))
theorem low29 : lowerF prog 29 = some ⟨12, [LRes.cell 6 true 5], B29⟩ := by kernel_rfl

@[irreducible] def B30 : LCode :=
  (LCode.region [⟨none, [(some 3, LOp.box 24 (LX.tmp 0)), (some 6, LOp.mv (LX.con (AV.int IntKind.i64 0))), (some 7, LOp.mv (LX.con (AV.int IntKind.i64 0)))]⟩]).seq ((LCode.region [⟨none, [(some 11, LOp.faddr 3 (LX.tmp 3)), (some
    12, LOp.load false 1 (LX.tmp 11)), (some 13, LOp.call 56 [LX.tmp 12]), (some 10, LOp.mv (LX.tmp 13)), (some 14, LOp.extr 0 (LX.tmp 10)), (some 15, LOp.extr 1 (LX.tmp 10)), (some 8, LOp.mv (LX.tmp 14)), (some 9, LOp.mv (LX.tmp
    15))]⟩]).seq (((LCode.region [⟨none, [(some 16, LOp.load true 5 (LX.tmp 3)), (some 17, LOp.mv (LX.tmp 1)), (some 18, LOp.mv (LX.tmp 2)), (some 19, LOp.call 57 [LX.tmp 16, LX.tmp 17, LX.tmp 18, LX.con (AV.bool false)]), (some 20,
    LOp.un UnOp.not (LX.tmp 19)), (some 21, LOp.mv (LX.tmp 20))]⟩, ⟨some (21, false), [(some 22, LOp.mv (LX.tmp 9)), (some 23, LOp.bin BinOp.neq (LX.tmp 22) (LX.con (AV.int IntKind.i64 0)))]⟩, ⟨none, [(some 24, LOp.pick (LX.tmp 21)
    (LX.con (AV.bool true)) (LX.tmp 23))]⟩]).seq (LCode.cond (LX.tmp 24) ((LCode.region [⟨none, [(some 6, LOp.mv (LX.con (AV.int IntKind.i64 0))), (some 7, LOp.mv (LX.con (AV.int IntKind.i64 24)))]⟩]).seq LCode.ret) LCode.skip)).seq
    ((LCode.region [⟨none, [(some 25, LOp.mv (LX.tmp 8)), (some 6, LOp.mv (LX.tmp 25)), (some 7, LOp.mv (LX.con (AV.int IntKind.i64 0)))]⟩]).seq LCode.ret)))
theorem low30 : lowerF prog 30 = some ⟨26, [LRes.tmp 6, LRes.tmp 7], B30⟩ := by kernel_rfl

@[irreducible] def B31 : LCode :=
  (LCode.region [⟨none, [(some 3, LOp.box 24 (LX.tmp 0)), (some 6, LOp.mv (LX.con (AV.int IntKind.i64 0))), (some 7, LOp.mv (LX.con (AV.int IntKind.i64 0)))]⟩]).seq (((LCode.region [⟨none, [(some 8, LOp.load true 5 (LX.tmp 3)),
    (some 9, LOp.mv (LX.tmp 1)), (some 10, LOp.mv (LX.tmp 2)), (some 11, LOp.call 58 [LX.tmp 8, LX.tmp 9, LX.tmp 10, LX.con (AV.bool false)]), (some 12, LOp.un UnOp.not (LX.tmp 11)), (some 13, LOp.mv (LX.tmp 12))]⟩, ⟨some (13,
    false), [(some 14, LOp.faddr 3 (LX.tmp 3)), (some 15, LOp.load false 1 (LX.tmp 14)), (some 16, LOp.lenS (LX.tmp 15)), (some 17, LOp.bin BinOp.lss (LX.tmp 16) (LX.con (AV.int IntKind.i64 1)))]⟩, ⟨none, [(some 18, LOp.pick (LX.tmp
    13) (LX.con (AV.bool true)) (LX.tmp 17)), (some 19, LOp.mv (LX.tmp 18))]⟩, ⟨some (19, false), [(some 20, LOp.faddr 3 (LX.tmp 3)), (some 21, LOp.load false 1 (LX.tmp 20)), (some 22, LOp.lenS (LX.tmp 21)), (some 23, LOp.bin
    BinOp.gtr (LX.tmp 22) (LX.con (AV.int IntKind.i64 8)))]⟩, ⟨none, [(some 24, LOp.pick (LX.tmp 19) (LX.con (AV.bool true)) (LX.tmp 23))]⟩]).seq (LCode.cond (LX.tmp 24) ((LCode.region [⟨none, [(some 6, LOp.mv (LX.con (AV.int
    IntKind.i64 0))), (some 7, LOp.mv (LX.con (AV.int IntKind.i64 24)))]⟩]).seq LCode.ret) LCode.skip)).seq ((LCode.region [⟨none, [(some 25, LOp.faddr 3 (LX.tmp 3)), (some 26, LOp.load false 1 (LX.tmp 25)), (some 27, LOp.call 59
    [LX.tmp 26]), (some 28, LOp.extr 0 (LX.tmp 27)), (some 29, LOp.extr 1 (LX.tmp 27)), (some 6, LOp.mv (LX.tmp 28)), (some 7, LOp.mv (LX.tmp 29))]⟩]).seq LCode.ret))
theorem low31 : lowerF prog 31 = some ⟨30, [LRes.tmp 6, LRes.tmp 7], B31⟩ := by kernel_rfl

@[irreducible] def B32 : LCode :=
  (LCode.region [⟨none, [(some 3, LOp.box 24 (LX.tmp 0)), (some 6, LOp.mv (LX.con (AV.str []))), (some 7, LOp.mv (LX.con (AV.int IntKind.i64 0)))]⟩]).seq (((LCode.region [⟨none, [(some 8, LOp.load true 5 (LX.tmp 3)), (some 9, LOp.mv
    (LX.tmp 1)), (some 10, LOp.mv (LX.tmp 2)), (some 11, LOp.call 57 [LX.tmp 8, LX.tmp 9, LX.tmp 10, LX.con (AV.bool false)]), (some 12, LOp.un UnOp.not (LX.tmp 11))]⟩]).seq (LCode.cond (LX.tmp 12) ((LCode.region [⟨none, [(some 6,
    LOp.mv (LX.con (AV.str []))), (some 7, LOp.mv (LX.con (AV.int IntKind.i64 24)))]⟩]).seq LCode.ret) LCode.skip)).seq ((LCode.region [⟨none, [(some 13, LOp.faddr 3 (LX.tmp 3)), (some 14, LOp.load false 1 (LX.tmp 13)), (some 6,
    LOp.mv (LX.tmp 14)), (some 7, LOp.mv (LX.con (AV.int IntKind.i64 0)))]⟩]).seq LCode.ret))
theorem low32 : lowerF prog 32 = some ⟨15, [LRes.tmp 6, LRes.tmp 7], B32⟩ := by kernel_rfl

@[irreducible] def B33 : LCode :=
  (LCode.region [⟨none, [(some 3, LOp.box 24 (LX.tmp 0)), (some 6, LOp.mv (LX.con (AV.str []))), (some 7, LOp.mv (LX.con (AV.int IntKind.i64 0)))]⟩]).seq (((LCode.region [⟨none, [(some 8, LOp.load true 5 (LX.tmp 3)), (some 9, LOp.mv
    (LX.tmp 1)), (some 10, LOp.mv (LX.tmp 2)), (some 11, LOp.call 58 [LX.tmp 8, LX.tmp 9, LX.tmp 10, LX.con (AV.bool false)]), (some 12, LOp.un UnOp.not (LX.tmp 11))]⟩]).seq (LCode.cond (LX.tmp 12) ((LCode.region [⟨none, [(some 6,
    LOp.mv (LX.con (AV.str []))), (some 7, LOp.mv (LX.con (AV.int IntKind.i64 24)))]⟩]).seq LCode.ret) LCode.skip)).seq ((LCode.region [⟨none, [(some 13, LOp.faddr 3 (LX.tmp 3)), (some 14, LOp.load false 1 (LX.tmp 13)), (some 6,
    LOp.mv (LX.tmp 14)), (some 7, LOp.mv (LX.con (AV.int IntKind.i64 0)))]⟩]).seq LCode.ret))
theorem low33 : lowerF prog 33 = some ⟨15, [LRes.tmp 6, LRes.tmp 7], B33⟩ := by kernel_rfl

@[irreducible] def B34 : LCode :=
  (LCode.region [⟨none, [(some 3, LOp.box 24 (LX.tmp 0)), (some 6, LOp.mv (LX.con (AV.bool false))), (some 7, LOp.mv (LX.con (AV.int IntKind.i64 0)))]⟩]).seq (((LCode.region [⟨none, [(some 8, LOp.load true 5 (LX.tmp 3)), (some 9,
    LOp.mv (LX.tmp 1)), (some 10, LOp.mv (LX.tmp 2)), (some 11, LOp.call 57 [LX.tmp 8, LX.tmp 9, LX.tmp 10, LX.con (AV.bool false)]), (some 12, LOp.un UnOp.not (LX.tmp 11)), (some 13, LOp.mv (LX.tmp 12))]⟩, ⟨some (13, false), [(some
    14, LOp.faddr 3 (LX.tmp 3)), (some 15, LOp.load false 1 (LX.tmp 14)), (some 16, LOp.lenS (LX.tmp 15)), (some 17, LOp.bin BinOp.neq (LX.tmp 16) (LX.con (AV.int IntKind.i64 1)))]⟩, ⟨none, [(some 18, LOp.pick (LX.tmp 13) (LX.con
    (AV.bool true)) (LX.tmp 17))]⟩]).seq (LCode.cond (LX.tmp 18) ((LCode.region [⟨none, [(some 6, LOp.mv (LX.con (AV.bool false))), (some 7, LOp.mv (LX.con (AV.int IntKind.i64 24)))]⟩]).seq LCode.ret) LCode.skip)).seq ((LCode.region
    [⟨none, [(some 19, LOp.faddr 3 (LX.tmp 3)), (some 20, LOp.load false 1 (LX.tmp 19)), (some 21, LOp.idx (LX.tmp 20) (LX.con (AV.int IntKind.i64 0))), (some 22, LOp.bin BinOp.neq (LX.tmp 21) (LX.con (AV.int IntKind.u8 0))), (some
    6, LOp.mv (LX.tmp 22)), (some 7, LOp.mv (LX.con (AV.int IntKind.i64 0)))]⟩]).seq LCode.ret))
theorem low34 : lowerF prog 34 = some ⟨23, [LRes.tmp 6, LRes.tmp 7], B34⟩ := by kernel_rfl

@[irreducible] def B35 : LCode :=
  (LCode.region [⟨none, [(some 3, LOp.box 24 (LX.tmp 0)), (some 6, LOp.mv (LX.con (AV.bool false))), (some 7, LOp.mv (LX.con (AV.int IntKind.i64 0)))]⟩]).seq (((LCode.region [⟨none, [(some 8, LOp.load true 5 (LX.tmp 3)), (some 9,
    LOp.mv (LX.tmp 1)), (some 10, LOp.mv (LX.tmp 2)), (some 11, LOp.call 58 [LX.tmp 8, LX.tmp 9, LX.tmp 10, LX.con (AV.bool false)]), (some 12, LOp.un UnOp.not (LX.tmp 11)), (some 13, LOp.mv (LX.tmp 12))]⟩, ⟨some (13, false), [(some
    14, LOp.faddr 3 (LX.tmp 3)), (some 15, LOp.load false 1 (LX.tmp 14)), (some 16, LOp.lenS (LX.tmp 15)), (some 17, LOp.bin BinOp.neq (LX.tmp 16) (LX.con (AV.int IntKind.i64 1)))]⟩, ⟨none, [(some 18, LOp.pick (LX.tmp 13) (LX.con
    (AV.bool true)) (LX.tmp 17))]⟩]).seq (LCode.cond (LX.tmp 18) ((LCode.region [⟨none, [(some 6, LOp.mv (LX.con (AV.bool false))), (some 7, LOp.mv (LX.con (AV.int IntKind.i64 24)))]⟩]).seq LCode.ret) LCode.skip)).seq ((LCode.region
    [⟨none, [(some 19, LOp.faddr 3 (LX.tmp 3)), (some 20, LOp.load false 1 (LX.tmp 19)), (some 21, LOp.idx (LX.tmp 20) (LX.con (AV.int IntKind.i64 0))), (some 22, LOp.bin BinOp.neq (LX.tmp 21) (LX.con (AV.int IntKind.u8 0))), (some
    6, LOp.mv (LX.tmp 22)), (some 7, LOp.mv (LX.con (AV.int IntKind.i64 0)))]⟩]).seq LCode.ret))
theorem low35 : lowerF prog 35 = some ⟨23, [LRes.tmp 6, LRes.tmp 7], B35⟩ := by kernel_rfl

@[irreducible] def B36 : LCode :=
  (LCode.region [⟨none, [(some 3, LOp.box 24 (LX.tmp 0)), (some 6, LOp.mv (LX.con (AV.lit (Value.slice none 0 0)))), (some 7, LOp.mv (LX.con (AV.int IntKind.i64 0)))]⟩]).seq (((LCode.region [⟨none, [(some 8, LOp.load true 5 (LX.tmp
    3)), (some 9, LOp.mv (LX.tmp 1)), (some 10, LOp.mv (LX.tmp 2)), (some 11, LOp.call 57 [LX.tmp 8, LX.tmp 9, LX.tmp 10, LX.con (AV.bool true)]), (some 12, LOp.un UnOp.not (LX.tmp 11))]⟩]).seq (LCode.cond (LX.tmp 12) ((LCode.region
    [⟨none, [(some 6, LOp.mv (LX.con (AV.lit (Value.slice none 0 0)))), (some 7, LOp.mv (LX.con (AV.int IntKind.i64 24)))]⟩]).seq LCode.ret) LCode.skip)).seq ((LCode.region [⟨none, [(some 13, LOp.faddr 4 (LX.tmp 3)), (some 14,
    LOp.load false 1 (LX.tmp 13)), (some 15, LOp.call 54 [LX.tmp 14]), (some 6, LOp.mv (LX.tmp 15)), (some 7, LOp.mv (LX.con (AV.int IntKind.i64 0)))]⟩]).seq LCode.ret))
theorem low36 : lowerF prog 36 = some ⟨16, [LRes.tmp 6, LRes.tmp 7], B36⟩ := by kernel_rfl

@[irreducible] def B37 : LCode :=
  (LCode.region [⟨none, [(some 3, LOp.box 24 (LX.tmp 0)), (some 6, LOp.mv (LX.con (AV.lit (Value.slice none 0 0)))), (some 7, LOp.mv (LX.con (AV.int IntKind.i64 0)))]⟩]).seq (((LCode.region [⟨none, [(some 8, LOp.load true 5 (LX.tmp
    3)), (some 9, LOp.mv (LX.tmp 1)), (some 10, LOp.mv (LX.tmp 2)), (some 11, LOp.call 58 [LX.tmp 8, LX.tmp 9, LX.tmp 10, LX.con (AV.bool true)]), (some 12, LOp.un UnOp.not (LX.tmp 11))]⟩]).seq (LCode.cond (LX.tmp 12) ((LCode.region
    [⟨none, [(some 6, LOp.mv (LX.con (AV.lit (Value.slice none 0 0)))), (some 7, LOp.mv (LX.con (AV.int IntKind.i64 24)))]⟩]).seq LCode.ret) LCode.skip)).seq ((LCode.region [⟨none, [(some 13, LOp.faddr 4 (LX.tmp 3)), (some 14,
    LOp.load false 1 (LX.tmp 13)), (some 6, LOp.mv (LX.tmp 14)), (some 7, LOp.mv (LX.con (AV.int IntKind.i64 0)))]⟩]).seq LCode.ret))
theorem low37 : lowerF prog 37 = some ⟨15, [LRes.tmp 6, LRes.tmp 7], B37⟩ := by kernel_rfl

@[irreducible] def B38 : LCode :=
  (LCode.region [⟨none, [(some 4, LOp.mv (LX.con (AV.bool false)))]⟩]).seq (((LCode.region [⟨none, [(some 6, LOp.mv (LX.tmp 0)), (some 7, LOp.len (LX.tmp 6)), (some 8, LOp.mv (LX.tmp 1)), (some 9, LOp.len (LX.tmp 8)), (some 10,
    LOp.bin BinOp.neq (LX.tmp 7) (LX.tmp 9))]⟩]).seq (LCode.cond (LX.tmp 10) ((LCode.region [⟨none, [(some 4, LOp.mv (LX.con (AV.bool false)))]⟩]).seq LCode.ret) LCode.skip)).seq (((LCode.region [⟨none, [(some 5, LOp.mv (LX.con
    (AV.int IntKind.i64 0)))]⟩]).seq (LCode.block 0 (((LCode.region [⟨none, [(some 11, LOp.mv (LX.tmp 5)), (some 12, LOp.mv (LX.tmp 0)), (some 13, LOp.len (LX.tmp 12)), (some 14, LOp.bin BinOp.lss (LX.tmp 11) (LX.tmp 13))]⟩]).seq
    (LCode.cond (LX.tmp 14) LCode.skip (LCode.exit 0))).seq ((LCode.block 1 ((LCode.quiet [⟨some 17, none, LOp.mv (LX.tmp 0), false, 0, 0⟩, ⟨some 18, none, LOp.mv (LX.tmp 5), false, 0, 0⟩, ⟨some 19, none, LOp.iaddr 5 (LX.tmp 17)
    (LX.tmp 18), false, 0, 0⟩, ⟨some 20, none, LOp.load true 5 (LX.tmp 19), false, 0, 0⟩, ⟨some 21, none, LOp.mv (LX.tmp 1), false, 0, 0⟩, ⟨some 22, none, LOp.mv (LX.tmp 5), false, 0, 0⟩, ⟨some 23, none, LOp.iaddr 5 (LX.tmp 21)
    (LX.tmp 22), false, 0, 0⟩, ⟨some 24, none, LOp.load true 5 (LX.tmp 23), false, 0, 0⟩, ⟨some 25, none, LOp.call 17 [LX.tmp 20, LX.tmp 24], false, 0, 0⟩, ⟨some 26, none, LOp.un UnOp.not (LX.tmp 25), false, 0, 0⟩]).seq (LCode.cond
    (LX.tmp 26) ((LCode.region [⟨none, [(some 4, LOp.mv (LX.con (AV.bool false)))]⟩]).seq LCode.ret) LCode.skip))).seq (LCode.region [⟨none, [(some 15, LOp.mv (LX.tmp 5)), (some 16, LOp.bin BinOp.add (LX.tmp 15) (LX.con (AV.int
    IntKind.i64 1))), (some 5, LOp.mv (LX.tmp 16))]⟩]))).loop)).seq ((LCode.region [⟨none, [(some 4, LOp.mv (LX.con (AV.bool true)))]⟩]).seq LCode.ret)))
theorem low38 : lowerF prog 38 = some ⟨27, [LRes.tmp 4], B38⟩ := by kernel_rfl

@[irreducible] def B39 : LCode :=
  (LCode.region [⟨none, [(some 2, LOp.mv (LX.con (AV.int IntKind.i64 0))), (some 3, LOp.mv (LX.con (AV.int IntKind.i64 0)))]⟩]).seq ((LCode.region [⟨none, [(some 8, LOp.mv (LX.tmp 0)), (some 9, LOp.call 60 [LX.tmp 8]), (some 7,
    LOp.mv (LX.tmp 9)), (some 10, LOp.extr 0 (LX.tmp 7)), (some 11, LOp.extr 1 (LX.tmp 7)), (some 12, LOp.extr 2 (LX.tmp 7)), (some 4, LOp.mv (LX.tmp 10)), (some 5, LOp.mv (LX.tmp 11)), (some 6, LOp.mv (LX.tmp 12))]⟩]).seq
    (((LCode.region [⟨none, [(some 13, LOp.mv (LX.tmp 6)), (some 14, LOp.bin BinOp.neq (LX.tmp 13) (LX.con (AV.int IntKind.i64 0)))]⟩]).seq (LCode.cond (LX.tmp 14) ((LCode.region [⟨none, [(some 15, LOp.mv (LX.tmp 6)), (some 2,
    LOp.mv (LX.con (AV.int IntKind.i64 0))), (some 3, LOp.mv (LX.tmp 15))]⟩]).seq LCode.ret) LCode.skip)).seq (((LCode.region [⟨none, [(some 16, LOp.mv (LX.tmp 4)), (some 17, LOp.mv (LX.tmp 5)), (some 18, LOp.bin BinOp.add (LX.tmp
    16) (LX.tmp 17)), (some 19, LOp.bin BinOp.gtr (LX.tmp 18) (LX.con (AV.int IntKind.i64 65536)))]⟩]).seq (LCode.cond (LX.tmp 19) ((LCode.region [⟨none, [(some 2, LOp.mv (LX.con (AV.int IntKind.i64 0))), (some 3, LOp.mv (LX.con
    (AV.int IntKind.i64 2)))]⟩]).seq LCode.ret) LCode.skip)).seq ((LCode.region [⟨none, [(some 20, LOp.mv (LX.tmp 4)), (some 21, LOp.mv (LX.tmp 5)), (some 22, LOp.bin BinOp.add (LX.tmp 20) (LX.tmp 21)), (some 2, LOp.mv (LX.tmp 22)),
    (some 3, LOp.mv (LX.con (AV.int IntKind.i64 0)))]⟩]).seq LCode.ret))))
theorem low39 : lowerF prog 39 = some ⟨23, [LRes.tmp 2, LRes.tmp 3], B39⟩ := by kernel_rfl

@[irreducible] def B41 : LCode :=
  (LCode.region [⟨none, [(some 2, LOp.alloc 24 [AV.int IntKind.i64 0, AV.int IntKind.i64 0, AV.bool false, AV.str [], AV.lit (Value.slice none 0 0)]), (some 3, LOp.mv (LX.con (AV.int IntKind.i64 0)))]⟩]).seq ((LCode.region [⟨none,
    [(some 8, LOp.mv (LX.tmp 0)), (some 9, LOp.call 63 [LX.tmp 8, LX.con (AV.int IntKind.i64 0)]), (some 7, LOp.mv (LX.tmp 9)), (some 10, LOp.extr 0 (LX.tmp 7)), (some 11, LOp.extr 1 (LX.tmp 7)), (some 12, LOp.extr 2 (LX.tmp 7)),
    (some 4, LOp.alloc 24 [AV.int IntKind.i64 0, AV.int IntKind.i64 0, AV.bool false, AV.str [], AV.lit (Value.slice none 0 0)]), (none, LOp.store 5 (LX.tmp 4) (LX.tmp 10)), (some 5, LOp.mv (LX.tmp 11)), (some 6, LOp.mv (LX.tmp
    12))]⟩]).seq (((LCode.region [⟨none, [(some 13, LOp.mv (LX.tmp 6)), (some 14, LOp.bin BinOp.neq (LX.tmp 13) (LX.con (AV.int IntKind.i64 0)))]⟩]).seq (LCode.cond (LX.tmp 14) ((LCode.region [⟨none, [(some 15, LOp.build [AV.int
    IntKind.i64 0, AV.int IntKind.i64 0, AV.bool false, AV.str [], AV.lit (Value.slice none 0 0)] []), (some 16, LOp.mv (LX.tmp 6)), (none, LOp.store 5 (LX.tmp 2) (LX.tmp 15)), (some 3, LOp.mv (LX.tmp 16))]⟩]).seq LCode.ret)
    LCode.skip)).seq (((LCode.region [⟨none, [(some 17, LOp.mv (LX.tmp 5)), (some 18, LOp.mv (LX.tmp 0)), (some 19, LOp.lenS (LX.tmp 18)), (some 20, LOp.bin BinOp.lss (LX.tmp 17) (LX.tmp 19))]⟩]).seq (LCode.cond (LX.tmp 20)
    ((LCode.region [⟨none, [(some 21, LOp.build [AV.int IntKind.i64 0, AV.int IntKind.i64 0, AV.bool false, AV.str [], AV.lit (Value.slice none 0 0)] []), (none, LOp.store 5 (LX.tmp 2) (LX.tmp 21)), (some 3, LOp.mv (LX.con (AV.int
    IntKind.i64 25)))]⟩]).seq LCode.ret) LCode.skip)).seq ((LCode.region [⟨none, [(some 22, LOp.load true 5 (LX.tmp 4)), (none, LOp.store 5 (LX.tmp 2) (LX.tmp 22)), (some 3, LOp.mv (LX.con (AV.int IntKind.i64 0)))]⟩]).seq
    LCode.ret))))
theorem low41 : lowerF prog 41 = some ⟨23, [LRes.cell 2 true 5, LRes.tmp 3], B41⟩ := by kernel_rfl

@[irreducible] def B42 : LCode :=
  (LCode.region [⟨none, [(some 3, LOp.box 24 (LX.tmp 0)), (some 6, LOp.mv (LX.con (AV.bool false)))]⟩]).seq (((LCode.region [⟨none, [(some 9, LOp.mv (LX.tmp 1)), (some 10, LOp.bin BinOp.geq (LX.tmp 9) (LX.con (AV.int IntKind.i64
    20)))]⟩]).seq (LCode.cond (LX.tmp 10) ((LCode.region [⟨none, [(some 6, LOp.mv (LX.con (AV.bool true)))]⟩]).seq LCode.ret) LCode.skip)).seq (((LCode.region [⟨none, [(some 11, LOp.mv (LX.tmp 2)), (some 12, LOp.load true 5 (LX.tmp
    3)), (some 13, LOp.callv (LX.tmp 11) [LX.tmp 12]), (some 14, LOp.un UnOp.not (LX.tmp 13))]⟩]).seq (LCode.cond (LX.tmp 14) ((LCode.region [⟨none, [(some 6, LOp.mv (LX.con (AV.bool false)))]⟩]).seq LCode.ret) LCode.skip)).seq
    (((LCode.region [⟨none, [(some 15, LOp.faddr 4 (LX.tmp 3)), (some 16, LOp.load false 1 (LX.tmp 15)), (some 17, LOp.len (LX.tmp 16)), (some 18, LOp.mv (LX.con (AV.int IntKind.i64 0)))]⟩]).seq (LCode.block 0 ((LCode.region [⟨none,
    [(some 19, LOp.bin BinOp.lss (LX.tmp 18) (LX.tmp 17))]⟩]).seq ((LCode.cond (LX.tmp 19) LCode.skip (LCode.exit 0)).seq ((LCode.block 1 ((LCode.region [⟨none, [(some 20, LOp.iaddr 5 (LX.tmp 16) (LX.tmp 18)), (some 21, LOp.load
    true 5 (LX.tmp 20)), (some 8, LOp.alloc 24 [AV.int IntKind.i64 0, AV.int IntKind.i64 0, AV.bool false, AV.str [], AV.lit (Value.slice none 0 0)]), (none, LOp.store 5 (LX.tmp 8) (LX.tmp 21))]⟩]).seq ((LCode.region [⟨none, [(some
    22, LOp.load true 5 (LX.tmp 8)), (some 23, LOp.mv (LX.tmp 1)), (some 24, LOp.bin BinOp.add (LX.tmp 23) (LX.con (AV.int IntKind.i64 1))), (some 25, LOp.mv (LX.tmp 2)), (some 26, LOp.call 42 [LX.tmp 22, LX.tmp 24, LX.tmp 25]),
    (some 27, LOp.un UnOp.not (LX.tmp 26))]⟩]).seq (LCode.cond (LX.tmp 27) ((LCode.region [⟨none, [(some 6, LOp.mv (LX.con (AV.bool false)))]⟩]).seq LCode.ret) LCode.skip)))).seq (LCode.region [⟨none, [(some 28, LOp.bin BinOp.add
    (LX.tmp 18) (LX.con (AV.int IntKind.i64 1))), (some 18, LOp.mv (LX.tmp 28))]⟩])))).loop)).seq ((LCode.region [⟨none, [(some 6, LOp.mv (LX.con (AV.bool true)))]⟩]).seq LCode.ret))))
theorem low42 : lowerF prog 42 = some ⟨29, [LRes.tmp 6], B42⟩ := by kernel_rfl

@[irreducible] def B43 : LCode :=
  (LCode.region [⟨none, [(some 1, LOp.box 24 (LX.tmp 0)), (some 2, LOp.mv (LX.con (AV.bool false)))]⟩]).seq ((LCode.region [⟨none, [(some 3, LOp.faddr 0 (LX.tmp 1)), (some 4, LOp.load false 1 (LX.tmp 3)), (some 5, LOp.bin BinOp.geq
    (LX.tmp 4) (LX.con (AV.int IntKind.i64 0))), (some 6, LOp.mv (LX.tmp 5))]⟩, ⟨some (6, true), [(some 7, LOp.faddr 0 (LX.tmp 1)), (some 8, LOp.load false 1 (LX.tmp 7)), (some 9, LOp.bin BinOp.leq (LX.tmp 8) (LX.con (AV.int
    IntKind.i64 3)))]⟩, ⟨none, [(some 10, LOp.pick (LX.tmp 6) (LX.tmp 9) (LX.con (AV.bool false))), (some 11, LOp.mv (LX.tmp 10))]⟩, ⟨some (11, true), [(some 12, LOp.faddr 1 (LX.tmp 1)), (some 13, LOp.load false 1 (LX.tmp 12)),
    (some 14, LOp.bin BinOp.geq (LX.tmp 13) (LX.con (AV.int IntKind.i64 0)))]⟩, ⟨none, [(some 15, LOp.pick (LX.tmp 11) (LX.tmp 14) (LX.con (AV.bool false))), (some 16, LOp.mv (LX.tmp 15))]⟩, ⟨some (16, true), [(some 17, LOp.faddr 1
    (LX.tmp 1)), (some 18, LOp.load false 1 (LX.tmp 17)), (some 19, LOp.bin BinOp.leq (LX.tmp 18) (LX.con (AV.int IntKind.i64 30)))]⟩, ⟨none, [(some 20, LOp.pick (LX.tmp 16) (LX.tmp 19) (LX.con (AV.bool false))), (some 2, LOp.mv
    (LX.tmp 20))]⟩]).seq LCode.ret)
theorem low43 : lowerF prog 43 = some ⟨21, [LRes.tmp 2], B43⟩ := by kernel_rfl

@[irreducible] def B44 : LCode :=
  (LCode.region [⟨none, [(some 1, LOp.box 24 (LX.tmp 0)), (some 2, LOp.mv (LX.con (AV.bool false)))]⟩]).seq (((LCode.region [⟨none, [(some 3, LOp.faddr 2 (LX.tmp 1)), (some 4, LOp.load false 1 (LX.tmp 3))]⟩]).seq (LCode.cond (LX.tmp
    4) ((LCode.region [⟨none, [(some 5, LOp.faddr 3 (LX.tmp 1)), (some 6, LOp.load false 1 (LX.tmp 5)), (some 7, LOp.bin BinOp.eql (LX.tmp 6) (LX.con (AV.str []))), (some 2, LOp.mv (LX.tmp 7))]⟩]).seq LCode.ret) LCode.skip)).seq
    ((LCode.region [⟨none, [(some 8, LOp.faddr 4 (LX.tmp 1)), (some 9, LOp.load false 1 (LX.tmp 8)), (some 10, LOp.len (LX.tmp 9)), (some 11, LOp.bin BinOp.eql (LX.tmp 10) (LX.con (AV.int IntKind.i64 0))), (some 2, LOp.mv (LX.tmp
    11))]⟩]).seq LCode.ret))
theorem low44 : lowerF prog 44 = some ⟨12, [LRes.tmp 2], B44⟩ := by kernel_rfl

@[irreducible] def B45 : LCode :=
  (LCode.region [⟨none, [(some 2, LOp.box 24 (LX.tmp 0)), (some 4, LOp.mv (LX.con (AV.bool false)))]⟩]).seq (((LCode.region [⟨none, [(some 7, LOp.mv (LX.tmp 1)), (some 8, LOp.bin BinOp.geq (LX.tmp 7) (LX.con (AV.int IntKind.i64
    20)))]⟩]).seq (LCode.cond (LX.tmp 8) ((LCode.region [⟨none, [(some 4, LOp.mv (LX.con (AV.bool true)))]⟩]).seq LCode.ret) LCode.skip)).seq (((LCode.region [⟨none, [(some 9, LOp.faddr 4 (LX.tmp 2)), (some 10, LOp.load false 1
    (LX.tmp 9)), (some 11, LOp.len (LX.tmp 10)), (some 12, LOp.mv (LX.con (AV.int IntKind.i64 0)))]⟩]).seq (LCode.block 0 ((LCode.region [⟨none, [(some 13, LOp.bin BinOp.lss (LX.tmp 12) (LX.tmp 11))]⟩]).seq ((LCode.cond (LX.tmp 13)
    LCode.skip (LCode.exit 0)).seq ((LCode.block 1 ((LCode.region [⟨none, [(some 14, LOp.iaddr 5 (LX.tmp 10) (LX.tmp 12)), (some 15, LOp.load true 5 (LX.tmp 14)), (some 6, LOp.alloc 24 [AV.int IntKind.i64 0, AV.int IntKind.i64 0,
    AV.bool false, AV.str [], AV.lit (Value.slice none 0 0)]), (none, LOp.store 5 (LX.tmp 6) (LX.tmp 15))]⟩]).seq ((LCode.region [⟨none, [(some 16, LOp.load true 5 (LX.tmp 6)), (some 17, LOp.mv (LX.tmp 1)), (some 18, LOp.bin
    BinOp.add (LX.tmp 17) (LX.con (AV.int IntKind.i64 1))), (some 19, LOp.call 45 [LX.tmp 16, LX.tmp 18])]⟩]).seq (LCode.cond (LX.tmp 19) ((LCode.region [⟨none, [(some 4, LOp.mv (LX.con (AV.bool true)))]⟩]).seq LCode.ret)
    LCode.skip)))).seq (LCode.region [⟨none, [(some 20, LOp.bin BinOp.add (LX.tmp 12) (LX.con (AV.int IntKind.i64 1))), (some 12, LOp.mv (LX.tmp 20))]⟩])))).loop)).seq ((LCode.region [⟨none, [(some 4, LOp.mv (LX.con (AV.bool
    false)))]⟩]).seq LCode.ret)))
theorem low45 : lowerF prog 45 = some ⟨21, [LRes.tmp 4], B45⟩ := by kernel_rfl

@[irreducible] def B46 : LCode :=
  (LCode.region [⟨none, [(some 1, LOp.box 24 (LX.tmp 0)), (some 2, LOp.mv (LX.con (AV.int IntKind.i64 0)))]⟩]).seq ((LCode.region [⟨none, [(some 6, LOp.faddr 3 (LX.tmp 1)), (some 7, LOp.load false 1 (LX.tmp 6)), (some 8, LOp.lenS
    (LX.tmp 7)), (some 3, LOp.mv (LX.tmp 8))]⟩]).seq (((LCode.region [⟨none, [(some 9, LOp.faddr 4 (LX.tmp 1)), (some 10, LOp.load false 1 (LX.tmp 9)), (some 11, LOp.len (LX.tmp 10)), (some 12, LOp.mv (LX.con (AV.int IntKind.i64
    0)))]⟩]).seq (LCode.block 0 ((LCode.region [⟨none, [(some 13, LOp.bin BinOp.lss (LX.tmp 12) (LX.tmp 11))]⟩]).seq ((LCode.cond (LX.tmp 13) LCode.skip (LCode.exit 0)).seq ((LCode.block 1 ((LCode.region [⟨none, [(some 14, LOp.iaddr
    5 (LX.tmp 10) (LX.tmp 12)), (some 15, LOp.load true 5 (LX.tmp 14)), (some 5, LOp.alloc 24 [AV.int IntKind.i64 0, AV.int IntKind.i64 0, AV.bool false, AV.str [], AV.lit (Value.slice none 0 0)]), (none, LOp.store 5 (LX.tmp 5)
    (LX.tmp 15))]⟩]).seq (LCode.region [⟨none, [(some 16, LOp.mv (LX.tmp 3)), (some 17, LOp.load true 5 (LX.tmp 5)), (some 18, LOp.call 46 [LX.tmp 17]), (some 19, LOp.bin BinOp.add (LX.tmp 16) (LX.tmp 18)), (some 20, LOp.minI
    (LX.tmp 19) (LX.con (AV.int IntKind.i64 65537))), (some 3, LOp.mv (LX.tmp 20))]⟩]))).seq (LCode.region [⟨none, [(some 21, LOp.bin BinOp.add (LX.tmp 12) (LX.con (AV.int IntKind.i64 1))), (some 12, LOp.mv (LX.tmp
    21))]⟩])))).loop)).seq ((LCode.region [⟨none, [(some 22, LOp.mv (LX.tmp 3)), (some 23, LOp.minI (LX.tmp 22) (LX.con (AV.int IntKind.i64 65537))), (some 24, LOp.call 64 [LX.tmp 23]), (some 25, LOp.lenS (LX.tmp 24)), (some 26,
    LOp.bin BinOp.add (LX.con (AV.int IntKind.i64 1)) (LX.tmp 25)), (some 27, LOp.mv (LX.tmp 3)), (some 28, LOp.bin BinOp.add (LX.tmp 26) (LX.tmp 27)), (some 29, LOp.minI (LX.tmp 28) (LX.con (AV.int IntKind.i64 65537))), (some 2,
    LOp.mv (LX.tmp 29))]⟩]).seq LCode.ret)))
theorem low46 : lowerF prog 46 = some ⟨30, [LRes.tmp 2], B46⟩ := by kernel_rfl

@[irreducible] def B47 : LCode :=
  (LCode.region [⟨none, [(some 3, LOp.box 24 (LX.tmp 1))]⟩]).seq ((LCode.region [⟨none, [(some 10, LOp.faddr 0 (LX.tmp 3)), (some 11, LOp.load false 1 (LX.tmp 10)), (some 12, LOp.bin BinOp.shl (LX.tmp 11) (LX.con (AV.int IntKind.u64
    6))), (some 13, LOp.faddr 1 (LX.tmp 3)), (some 14, LOp.load false 1 (LX.tmp 13)), (some 15, LOp.bin BinOp.or (LX.tmp 12) (LX.tmp 14)), (some 4, LOp.mv (LX.tmp 15))]⟩]).seq (((LCode.region [⟨none, [(some 16, LOp.faddr 2 (LX.tmp
    3)), (some 17, LOp.load false 1 (LX.tmp 16))]⟩]).seq (LCode.cond (LX.tmp 17) (LCode.region [⟨none, [(some 18, LOp.mv (LX.tmp 4)), (some 19, LOp.bin BinOp.or (LX.tmp 18) (LX.con (AV.int IntKind.i64 32))), (some 4, LOp.mv (LX.tmp
    19))]⟩]) LCode.skip)).seq ((LCode.region [⟨none, [(some 20, LOp.faddr 3 (LX.tmp 3)), (some 21, LOp.load false 1 (LX.tmp 20)), (some 22, LOp.lenS (LX.tmp 21)), (some 5, LOp.mv (LX.tmp 22))]⟩]).seq (((LCode.region [⟨none, [(some
    23, LOp.faddr 4 (LX.tmp 3)), (some 24, LOp.load false 1 (LX.tmp 23)), (some 25, LOp.len (LX.tmp 24)), (some 26, LOp.mv (LX.con (AV.int IntKind.i64 0)))]⟩]).seq (LCode.block 0 ((LCode.region [⟨none, [(some 27, LOp.bin BinOp.lss
    (LX.tmp 26) (LX.tmp 25))]⟩]).seq ((LCode.cond (LX.tmp 27) LCode.skip (LCode.exit 0)).seq ((LCode.block 1 ((LCode.region [⟨none, [(some 28, LOp.iaddr 5 (LX.tmp 24) (LX.tmp 26)), (some 29, LOp.load true 5 (LX.tmp 28)), (some 7,
    LOp.alloc 24 [AV.int IntKind.i64 0, AV.int IntKind.i64 0, AV.bool false, AV.str [], AV.lit (Value.slice none 0 0)]), (none, LOp.store 5 (LX.tmp 7) (LX.tmp 29))]⟩]).seq (LCode.region [⟨none, [(some 30, LOp.mv (LX.tmp 5)), (some
    31, LOp.load true 5 (LX.tmp 7)), (some 32, LOp.call 46 [LX.tmp 31]), (some 33, LOp.bin BinOp.add (LX.tmp 30) (LX.tmp 32)), (some 5, LOp.mv (LX.tmp 33))]⟩]))).seq (LCode.region [⟨none, [(some 34, LOp.bin BinOp.add (LX.tmp 26)
    (LX.con (AV.int IntKind.i64 1))), (some 26, LOp.mv (LX.tmp 34))]⟩])))).loop)).seq ((LCode.region [⟨none, [(some 35, LOp.mv (LX.tmp 0)), (some 36, LOp.mv (LX.tmp 4)), (some 37, LOp.cvt (Cvt.int IntKind.u8) (LX.tmp 36)), (some 38,
    LOp.call 65 [LX.tmp 35, LX.tmp 37])]⟩]).seq ((LCode.region [⟨none, [(some 39, LOp.mv (LX.tmp 0)), (some 40, LOp.mv (LX.tmp 5)), (some 41, LOp.call 64 [LX.tmp 40]), (some 42, LOp.call 66 [LX.tmp 39, LX.tmp 41])]⟩]).seq
    ((LCode.region [⟨none, [(some 43, LOp.mv (LX.tmp 0)), (some 44, LOp.faddr 3 (LX.tmp 3)), (some 45, LOp.load false 1 (LX.tmp 44)), (some 46, LOp.call 66 [LX.tmp 43, LX.tmp 45])]⟩]).seq ((LCode.region [⟨none, [(some 47, LOp.faddr
    4 (LX.tmp 3)), (some 48, LOp.load false 1 (LX.tmp 47)), (some 49, LOp.len (LX.tmp 48)), (some 50, LOp.mv (LX.con (AV.int IntKind.i64 0)))]⟩]).seq (LCode.block 2 ((LCode.region [⟨none, [(some 51, LOp.bin BinOp.lss (LX.tmp 50)
    (LX.tmp 49))]⟩]).seq ((LCode.cond (LX.tmp 51) LCode.skip (LCode.exit 2)).seq ((LCode.block 3 ((LCode.region [⟨none, [(some 52, LOp.iaddr 5 (LX.tmp 48) (LX.tmp 50)), (some 53, LOp.load true 5 (LX.tmp 52)), (some 9, LOp.alloc 24
    [AV.int IntKind.i64 0, AV.int IntKind.i64 0, AV.bool false, AV.str [], AV.lit (Value.slice none 0 0)]), (none, LOp.store 5 (LX.tmp 9) (LX.tmp 53))]⟩]).seq (LCode.region [⟨none, [(some 54, LOp.mv (LX.tmp 0)), (some 55, LOp.load
    true 5 (LX.tmp 9)), (some 56, LOp.call 47 [LX.tmp 54, LX.tmp 55])]⟩]))).seq (LCode.region [⟨none, [(some 57, LOp.bin BinOp.add (LX.tmp 50) (LX.con (AV.int IntKind.i64 1))), (some 50, LOp.mv (LX.tmp 57))]⟩])))).loop)))))))))
theorem low47 : lowerF prog 47 = some ⟨58, [], B47⟩ := by kernel_rfl

@[irreducible] def B48 : LCode :=
  (LCode.region [⟨none, [(some 2, LOp.mv (LX.con (AV.str [])))]⟩]).seq ((LCode.quiet [⟨some 3, none, LOp.mv (LX.tmp 0), false, 0, 1⟩, ⟨some 4, none, LOp.nilchk (LX.tmp 3), false, 0, 1⟩, ⟨some 5, none, LOp.faddr 1 (LX.tmp 4), false,
    0, 1⟩, ⟨some 6, none, LOp.load false 1 (LX.tmp 5), false, 0, 1⟩, ⟨some 7, none, LOp.sdata (LX.tmp 6), false, 0, 0⟩, ⟨some 8, none, LOp.mv (LX.tmp 0), false, 0, 1⟩, ⟨some 9, none, LOp.nilchk (LX.tmp 8), false, 0, 1⟩, ⟨some 10,
    none, LOp.faddr 1 (LX.tmp 9), false, 0, 1⟩, ⟨some 11, none, LOp.load false 1 (LX.tmp 10), false, 0, 1⟩, ⟨some 12, none, LOp.len (LX.tmp 11), false, 0, 0⟩, ⟨some 13, none, LOp.sstr 5 (LX.tmp 7) (LX.tmp 12), true, 0, 0⟩, ⟨some 2,
    none, LOp.mv (LX.tmp 13), false, 0, 0⟩]).seq LCode.ret)
theorem low48 : lowerF prog 48 = some ⟨14, [LRes.tmp 2], B48⟩ := by kernel_rfl

@[irreducible] def B49 : LCode :=
  (LCode.region [⟨none, [(some 2, LOp.box 24 (LX.tmp 0)), (some 4, LOp.mv (LX.con (AV.bool false))), (some 5, LOp.mv (LX.con (AV.bool false))), (some 6, LOp.mv (LX.con (AV.bool false)))]⟩]).seq (((LCode.region [⟨none, [(some 14,
    LOp.mv (LX.tmp 1)), (some 15, LOp.bin BinOp.geq (LX.tmp 14) (LX.con (AV.int IntKind.i64 20)))]⟩]).seq (LCode.cond (LX.tmp 15) ((LCode.region [⟨none, [(some 4, LOp.mv (LX.con (AV.bool false))), (some 5, LOp.mv (LX.con (AV.bool
    false))), (some 6, LOp.mv (LX.con (AV.bool true)))]⟩]).seq LCode.ret) LCode.skip)).seq ((LCode.region [⟨none, [(some 16, LOp.faddr 0 (LX.tmp 2)), (some 17, LOp.load false 1 (LX.tmp 16)), (some 18, LOp.bin BinOp.lss (LX.tmp 17)
    (LX.con (AV.int IntKind.i64 0))), (some 19, LOp.mv (LX.tmp 18))]⟩, ⟨some (19, false), [(some 20, LOp.faddr 0 (LX.tmp 2)), (some 21, LOp.load false 1 (LX.tmp 20)), (some 22, LOp.bin BinOp.gtr (LX.tmp 21) (LX.con (AV.int
    IntKind.i64 3)))]⟩, ⟨none, [(some 23, LOp.pick (LX.tmp 19) (LX.con (AV.bool true)) (LX.tmp 22)), (some 24, LOp.mv (LX.tmp 23))]⟩, ⟨some (24, false), [(some 25, LOp.faddr 1 (LX.tmp 2)), (some 26, LOp.load false 1 (LX.tmp 25)),
    (some 27, LOp.bin BinOp.lss (LX.tmp 26) (LX.con (AV.int IntKind.i64 0)))]⟩, ⟨none, [(some 28, LOp.pick (LX.tmp 24) (LX.con (AV.bool true)) (LX.tmp 27)), (some 29, LOp.mv (LX.tmp 28))]⟩, ⟨some (29, false), [(some 30, LOp.faddr 1
    (LX.tmp 2)), (some 31, LOp.load false 1 (LX.tmp 30)), (some 32, LOp.bin BinOp.gtr (LX.tmp 31) (LX.con (AV.int IntKind.i64 30)))]⟩, ⟨none, [(some 33, LOp.pick (LX.tmp 29) (LX.con (AV.bool true)) (LX.tmp 32)), (some 7, LOp.mv
    (LX.tmp 33))]⟩]).seq ((LCode.region [⟨none, [(some 34, LOp.faddr 2 (LX.tmp 2)), (some 35, LOp.load false 1 (LX.tmp 34)), (some 36, LOp.mv (LX.tmp 35))]⟩, ⟨some (36, true), [(some 37, LOp.faddr 3 (LX.tmp 2)), (some 38, LOp.load
    false 1 (LX.tmp 37)), (some 39, LOp.lenS (LX.tmp 38)), (some 40, LOp.bin BinOp.gtr (LX.tmp 39) (LX.con (AV.int IntKind.i64 0)))]⟩, ⟨none, [(some 41, LOp.pick (LX.tmp 36) (LX.tmp 40) (LX.con (AV.bool false))), (some 42, LOp.mv
    (LX.tmp 41))]⟩, ⟨some (42, false), [(some 43, LOp.faddr 2 (LX.tmp 2)), (some 44, LOp.load false 1 (LX.tmp 43)), (some 45, LOp.un UnOp.not (LX.tmp 44)), (some 46, LOp.mv (LX.tmp 45))]⟩, ⟨some (46, true), [(some 47, LOp.faddr 4
    (LX.tmp 2)), (some 48, LOp.load false 1 (LX.tmp 47)), (some 49, LOp.len (LX.tmp 48)), (some 50, LOp.bin BinOp.gtr (LX.tmp 49) (LX.con (AV.int IntKind.i64 0)))]⟩, ⟨some (42, false), [(some 51, LOp.pick (LX.tmp 46) (LX.tmp 50)
    (LX.con (AV.bool false)))]⟩, ⟨none, [(some 52, LOp.pick (LX.tmp 42) (LX.con (AV.bool true)) (LX.tmp 51)), (some 8, LOp.mv (LX.tmp 52))]⟩]).seq ((LCode.region [⟨none, [(some 9, LOp.mv (LX.con (AV.bool false)))]⟩]).seq
    (((LCode.region [⟨none, [(some 10, LOp.mv (LX.con (AV.int IntKind.i64 0)))]⟩]).seq (LCode.block 0 (((LCode.region [⟨none, [(some 53, LOp.mv (LX.tmp 10)), (some 54, LOp.faddr 4 (LX.tmp 2)), (some 55, LOp.load false 1 (LX.tmp
    54)), (some 56, LOp.len (LX.tmp 55)), (some 57, LOp.bin BinOp.lss (LX.tmp 53) (LX.tmp 56))]⟩]).seq (LCode.cond (LX.tmp 57) LCode.skip (LCode.exit 0))).seq ((LCode.block 1 ((LCode.region [⟨none, [(some 61, LOp.faddr 4 (LX.tmp
    2)), (some 62, LOp.load false 1 (LX.tmp 61)), (some 63, LOp.mv (LX.tmp 10)), (some 64, LOp.iaddr 5 (LX.tmp 62) (LX.tmp 63)), (some 65, LOp.load true 5 (LX.tmp 64)), (some 66, LOp.mv (LX.tmp 1)), (some 67, LOp.bin BinOp.add
    (LX.tmp 66) (LX.con (AV.int IntKind.i64 1))), (some 68, LOp.call 49 [LX.tmp 65, LX.tmp 67]), (some 60, LOp.mv (LX.tmp 68)), (some 69, LOp.extr 0 (LX.tmp 60)), (some 70, LOp.extr 1 (LX.tmp 60)), (some 71, LOp.extr 2 (LX.tmp 60)),
    (some 11, LOp.mv (LX.tmp 69)), (some 12, LOp.mv (LX.tmp 70)), (some 13, LOp.mv (LX.tmp 71))]⟩]).seq (LCode.region [⟨none, [(some 72, LOp.mv (LX.tmp 7)), (some 73, LOp.mv (LX.tmp 72))]⟩, ⟨some (73, false), [(some 74, LOp.mv
    (LX.tmp 11))]⟩, ⟨none, [(some 75, LOp.pick (LX.tmp 73) (LX.con (AV.bool true)) (LX.tmp 74)), (some 76, LOp.mv (LX.tmp 8)), (some 77, LOp.mv (LX.tmp 76))]⟩, ⟨some (77, false), [(some 78, LOp.mv (LX.tmp 12))]⟩, ⟨none, [(some 79,
    LOp.pick (LX.tmp 77) (LX.con (AV.bool true)) (LX.tmp 78)), (some 80, LOp.mv (LX.tmp 9)), (some 81, LOp.mv (LX.tmp 80))]⟩, ⟨some (81, false), [(some 82, LOp.mv (LX.tmp 13))]⟩, ⟨none, [(some 83, LOp.pick (LX.tmp 81) (LX.con
    (AV.bool true)) (LX.tmp 82)), (some 7, LOp.mv (LX.tmp 75)), (some 8, LOp.mv (LX.tmp 79)), (some 9, LOp.mv (LX.tmp 83))]⟩]))).seq (LCode.region [⟨none, [(some 58, LOp.mv (LX.tmp 10)), (some 59, LOp.bin BinOp.add (LX.tmp 58)
    (LX.con (AV.int IntKind.i64 1))), (some 10, LOp.mv (LX.tmp 59))]⟩]))).loop)).seq ((LCode.region [⟨none, [(some 84, LOp.mv (LX.tmp 7)), (some 85, LOp.mv (LX.tmp 8)), (some 86, LOp.mv (LX.tmp 9)), (some 4, LOp.mv (LX.tmp 84)),
    (some 5, LOp.mv (LX.tmp 85)), (some 6, LOp.mv (LX.tmp 86))]⟩]).seq LCode.ret))))))
theorem low49 : lowerF prog 49 = some ⟨87, [LRes.tmp 4, LRes.tmp 5, LRes.tmp 6], B49⟩ := by kernel_rfl

@[irreducible] def B50 : LCode :=
  (LCode.region [⟨none, [(some 1, LOp.box 24 (LX.tmp 0)), (some 2, LOp.mv (LX.con (AV.int IntKind.i64 0)))]⟩]).seq ((LCode.region [⟨none, [(some 5, LOp.faddr 3 (LX.tmp 1)), (some 6, LOp.load false 1 (LX.tmp 5)), (some 7, LOp.lenS
    (LX.tmp 6)), (some 3, LOp.mv (LX.tmp 7))]⟩]).seq (((LCode.region [⟨none, [(some 4, LOp.mv (LX.con (AV.int IntKind.i64 0)))]⟩]).seq (LCode.block 0 (((LCode.region [⟨none, [(some 8, LOp.mv (LX.tmp 4)), (some 9, LOp.faddr 4 (LX.tmp
    1)), (some 10, LOp.load false 1 (LX.tmp 9)), (some 11, LOp.len (LX.tmp 10)), (some 12, LOp.bin BinOp.lss (LX.tmp 8) (LX.tmp 11)), (some 13, LOp.mv (LX.tmp 12))]⟩, ⟨some (13, true), [(some 14, LOp.mv (LX.tmp 3)), (some 15,
    LOp.bin BinOp.leq (LX.tmp 14) (LX.con (AV.int IntKind.i64 65536)))]⟩, ⟨none, [(some 16, LOp.pick (LX.tmp 13) (LX.tmp 15) (LX.con (AV.bool false)))]⟩]).seq (LCode.cond (LX.tmp 16) LCode.skip (LCode.exit 0))).seq ((LCode.block 1
    (LCode.region [⟨none, [(some 19, LOp.mv (LX.tmp 3)), (some 20, LOp.faddr 4 (LX.tmp 1)), (some 21, LOp.load false 1 (LX.tmp 20)), (some 22, LOp.mv (LX.tmp 4)), (some 23, LOp.iaddr 5 (LX.tmp 21) (LX.tmp 22)), (some 24, LOp.load
    true 5 (LX.tmp 23)), (some 25, LOp.call 50 [LX.tmp 24]), (some 26, LOp.bin BinOp.add (LX.tmp 19) (LX.tmp 25)), (some 3, LOp.mv (LX.tmp 26))]⟩])).seq (LCode.region [⟨none, [(some 17, LOp.mv (LX.tmp 4)), (some 18, LOp.bin
    BinOp.add (LX.tmp 17) (LX.con (AV.int IntKind.i64 1))), (some 4, LOp.mv (LX.tmp 18))]⟩]))).loop)).seq ((LCode.block 2 ((LCode.region [⟨none, [(some 28, LOp.mv (LX.tmp 3)), (some 29, LOp.bin BinOp.gtr (LX.tmp 28) (LX.con (AV.int
    IntKind.i64 65536))), (some 27, LOp.mv (LX.tmp 29))]⟩]).seq (LCode.cond (LX.tmp 27) ((LCode.region [⟨none, [(some 2, LOp.mv (LX.con (AV.int IntKind.i64 65537)))]⟩]).seq LCode.ret) ((LCode.region [⟨none, [(some 31, LOp.mv (LX.tmp
    3)), (some 32, LOp.bin BinOp.lss (LX.tmp 31) (LX.con (AV.int IntKind.i64 128))), (some 30, LOp.mv (LX.tmp 32))]⟩]).seq (LCode.cond (LX.tmp 30) ((LCode.region [⟨none, [(some 33, LOp.mv (LX.tmp 3)), (some 34, LOp.bin BinOp.add
    (LX.tmp 33) (LX.con (AV.int IntKind.i64 2))), (some 2, LOp.mv (LX.tmp 34))]⟩]).seq LCode.ret) ((LCode.region [⟨none, [(some 36, LOp.mv (LX.tmp 3)), (some 37, LOp.bin BinOp.lss (LX.tmp 36) (LX.con (AV.int IntKind.i64 256))),
    (some 35, LOp.mv (LX.tmp 37))]⟩]).seq (LCode.cond (LX.tmp 35) ((LCode.region [⟨none, [(some 38, LOp.mv (LX.tmp 3)), (some 39, LOp.bin BinOp.add (LX.tmp 38) (LX.con (AV.int IntKind.i64 3))), (some 2, LOp.mv (LX.tmp 39))]⟩]).seq
    LCode.ret) LCode.skip))))))).seq ((LCode.region [⟨none, [(some 40, LOp.mv (LX.tmp 3)), (some 41, LOp.bin BinOp.add (LX.tmp 40) (LX.con (AV.int IntKind.i64 4))), (some 2, LOp.mv (LX.tmp 41))]⟩]).seq LCode.ret))))
theorem low50 : lowerF prog 50 = some ⟨42, [LRes.tmp 2], B50⟩ := by kernel_rfl

@[irreducible] def B51 : LCode :=
  (LCode.region [⟨none, [(some 3, LOp.box 24 (LX.tmp 1)), (some 4, LOp.mv (LX.con (AV.lit (Value.slice none 0 0))))]⟩]).seq ((LCode.region [⟨none, [(some 9, LOp.faddr 0 (LX.tmp 3)), (some 10, LOp.load false 1 (LX.tmp 9)), (some 11,
    LOp.bin BinOp.mul (LX.con (AV.int IntKind.i64 64)) (LX.tmp 10)), (some 12, LOp.faddr 1 (LX.tmp 3)), (some 13, LOp.load false 1 (LX.tmp 12)), (some 14, LOp.bin BinOp.add (LX.tmp 11) (LX.tmp 13)), (some 5, LOp.mv (LX.tmp
    14))]⟩]).seq (((LCode.region [⟨none, [(some 15, LOp.faddr 2 (LX.tmp 3)), (some 16, LOp.load false 1 (LX.tmp 15))]⟩]).seq (LCode.cond (LX.tmp 16) (LCode.region [⟨none, [(some 17, LOp.mv (LX.tmp 5)), (some 18, LOp.bin BinOp.add
    (LX.tmp 17) (LX.con (AV.int IntKind.i64 32))), (some 5, LOp.mv (LX.tmp 18))]⟩]) LCode.skip)).seq ((LCode.region [⟨none, [(some 19, LOp.faddr 3 (LX.tmp 3)), (some 20, LOp.load false 1 (LX.tmp 19)), (some 21, LOp.lenS (LX.tmp
    20)), (some 6, LOp.mv (LX.tmp 21))]⟩]).seq (((LCode.region [⟨none, [(some 7, LOp.mv (LX.con (AV.int IntKind.i64 0)))]⟩]).seq (LCode.block 0 (((LCode.region [⟨none, [(some 22, LOp.mv (LX.tmp 7)), (some 23, LOp.faddr 4 (LX.tmp
    3)), (some 24, LOp.load false 1 (LX.tmp 23)), (some 25, LOp.len (LX.tmp 24)), (some 26, LOp.bin BinOp.lss (LX.tmp 22) (LX.tmp 25))]⟩]).seq (LCode.cond (LX.tmp 26) LCode.skip (LCode.exit 0))).seq ((LCode.block 1 (LCode.region
    [⟨none, [(some 29, LOp.mv (LX.tmp 6)), (some 30, LOp.faddr 4 (LX.tmp 3)), (some 31, LOp.load false 1 (LX.tmp 30)), (some 32, LOp.mv (LX.tmp 7)), (some 33, LOp.iaddr 5 (LX.tmp 31) (LX.tmp 32)), (some 34, LOp.load true 5 (LX.tmp
    33)), (some 35, LOp.call 50 [LX.tmp 34]), (some 36, LOp.bin BinOp.add (LX.tmp 29) (LX.tmp 35)), (some 6, LOp.mv (LX.tmp 36))]⟩])).seq (LCode.region [⟨none, [(some 27, LOp.mv (LX.tmp 7)), (some 28, LOp.bin BinOp.add (LX.tmp 27)
    (LX.con (AV.int IntKind.i64 1))), (some 7, LOp.mv (LX.tmp 28))]⟩]))).loop)).seq ((LCode.region [⟨none, [(some 37, LOp.mv (LX.tmp 0)), (some 38, LOp.mv (LX.tmp 5)), (some 39, LOp.cvt (Cvt.int IntKind.u8) (LX.tmp 38)), (some 40,
    LOp.bslice 5 1 [LX.tmp 39]), (some 41, LOp.append false 5 1 1 (LX.tmp 37) (LX.tmp 40)), (some 0, LOp.mv (LX.tmp 41))]⟩]).seq ((LCode.block 2 ((LCode.region [⟨none, [(some 56, LOp.mv (LX.tmp 6)), (some 57, LOp.bin BinOp.lss
    (LX.tmp 56) (LX.con (AV.int IntKind.i64 128))), (some 55, LOp.mv (LX.tmp 57))]⟩]).seq (LCode.cond (LX.tmp 55) (LCode.region [⟨none, [(some 58, LOp.mv (LX.tmp 0)), (some 59, LOp.mv (LX.tmp 6)), (some 60, LOp.cvt (Cvt.int
    IntKind.u8) (LX.tmp 59)), (some 61, LOp.bslice 5 1 [LX.tmp 60]), (some 62, LOp.append false 5 1 1 (LX.tmp 58) (LX.tmp 61)), (some 0, LOp.mv (LX.tmp 62))]⟩]) ((LCode.region [⟨none, [(some 64, LOp.mv (LX.tmp 6)), (some 65, LOp.bin
    BinOp.lss (LX.tmp 64) (LX.con (AV.int IntKind.i64 256))), (some 63, LOp.mv (LX.tmp 65))]⟩]).seq (LCode.cond (LX.tmp 63) (LCode.region [⟨none, [(some 66, LOp.mv (LX.tmp 0)), (some 67, LOp.mv (LX.tmp 6)), (some 68, LOp.cvt
    (Cvt.int IntKind.u8) (LX.tmp 67)), (some 69, LOp.bslice 5 1 [LX.con (AV.int IntKind.u8 129), LX.tmp 68]), (some 70, LOp.append false 5 1 1 (LX.tmp 66) (LX.tmp 69)), (some 0, LOp.mv (LX.tmp 70))]⟩]) ((LCode.region [⟨none, [(some
    72, LOp.mv (LX.tmp 6)), (some 73, LOp.bin BinOp.lss (LX.tmp 72) (LX.con (AV.int IntKind.i64 65536))), (some 71, LOp.mv (LX.tmp 73))]⟩]).seq (LCode.cond (LX.tmp 71) (LCode.region [⟨none, [(some 74, LOp.mv (LX.tmp 0)), (some 75,
    LOp.mv (LX.tmp 6)), (some 76, LOp.bin BinOp.quo (LX.tmp 75) (LX.con (AV.int IntKind.i64 256))), (some 77, LOp.cvt (Cvt.int IntKind.u8) (LX.tmp 76)), (some 78, LOp.mv (LX.tmp 6)), (some 79, LOp.bin BinOp.rem (LX.tmp 78) (LX.con
    (AV.int IntKind.i64 256))), (some 80, LOp.cvt (Cvt.int IntKind.u8) (LX.tmp 79)), (some 81, LOp.bslice 5 1 [LX.con (AV.int IntKind.u8 130), LX.tmp 77, LX.tmp 80]), (some 82, LOp.append false 5 1 1 (LX.tmp 74) (LX.tmp 81)), (some
    0, LOp.mv (LX.tmp 82))]⟩]) (LCode.region [⟨none, [(some 42, LOp.mv (LX.tmp 0)), (some 43, LOp.mv (LX.tmp 6)), (some 44, LOp.bin BinOp.quo (LX.tmp 43) (LX.con (AV.int IntKind.i64 65536))), (some 45, LOp.cvt (Cvt.int IntKind.u8)
    (LX.tmp 44)), (some 46, LOp.mv (LX.tmp 6)), (some 47, LOp.bin BinOp.quo (LX.tmp 46) (LX.con (AV.int IntKind.i64 256))), (some 48, LOp.bin BinOp.rem (LX.tmp 47) (LX.con (AV.int IntKind.i64 256))), (some 49, LOp.cvt (Cvt.int
    IntKind.u8) (LX.tmp 48)), (some 50, LOp.mv (LX.tmp 6)), (some 51, LOp.bin BinOp.rem (LX.tmp 50) (LX.con (AV.int IntKind.i64 256))), (some 52, LOp.cvt (Cvt.int IntKind.u8) (LX.tmp 51)), (some 53, LOp.bslice 5 1 [LX.con (AV.int
    IntKind.u8 131), LX.tmp 45, LX.tmp 49, LX.tmp 52]), (some 54, LOp.append false 5 1 1 (LX.tmp 42) (LX.tmp 53)), (some 0, LOp.mv (LX.tmp 54))]⟩])))))))).seq ((LCode.region [⟨none, [(some 83, LOp.mv (LX.tmp 0)), (some 84, LOp.faddr
    3 (LX.tmp 3)), (some 85, LOp.load false 1 (LX.tmp 84)), (some 86, LOp.append true 5 1 1 (LX.tmp 83) (LX.tmp 85)), (some 0, LOp.mv (LX.tmp 86))]⟩]).seq (((LCode.region [⟨none, [(some 8, LOp.mv (LX.con (AV.int IntKind.i64
    0)))]⟩]).seq (LCode.block 3 (((LCode.region [⟨none, [(some 87, LOp.mv (LX.tmp 8)), (some 88, LOp.faddr 4 (LX.tmp 3)), (some 89, LOp.load false 1 (LX.tmp 88)), (some 90, LOp.len (LX.tmp 89)), (some 91, LOp.bin BinOp.lss (LX.tmp
    87) (LX.tmp 90))]⟩]).seq (LCode.cond (LX.tmp 91) LCode.skip (LCode.exit 3))).seq ((LCode.block 4 (LCode.region [⟨none, [(some 94, LOp.mv (LX.tmp 0)), (some 95, LOp.faddr 4 (LX.tmp 3)), (some 96, LOp.load false 1 (LX.tmp 95)),
    (some 97, LOp.mv (LX.tmp 8)), (some 98, LOp.iaddr 5 (LX.tmp 96) (LX.tmp 97)), (some 99, LOp.load true 5 (LX.tmp 98)), (some 100, LOp.call 51 [LX.tmp 94, LX.tmp 99]), (some 0, LOp.mv (LX.tmp 100))]⟩])).seq (LCode.region [⟨none,
    [(some 92, LOp.mv (LX.tmp 8)), (some 93, LOp.bin BinOp.add (LX.tmp 92) (LX.con (AV.int IntKind.i64 1))), (some 8, LOp.mv (LX.tmp 93))]⟩]))).loop)).seq ((LCode.region [⟨none, [(some 101, LOp.mv (LX.tmp 0)), (some 4, LOp.mv
    (LX.tmp 101))]⟩]).seq LCode.ret)))))))))
theorem low51 : lowerF prog 51 = some ⟨102, [LRes.tmp 4], B51⟩ := by kernel_rfl

@[irreducible] def B52 : LCode :=
  (LCode.region [⟨none, [(some 2, LOp.mv (LX.con (AV.int IntKind.i64 0))), (some 3, LOp.mv (LX.con (AV.int IntKind.i64 0))), (some 4, LOp.mv (LX.con (AV.int IntKind.i64 0)))]⟩]).seq ((LCode.block 0 ((LCode.region [⟨none, [(some 9,
    LOp.mv (LX.tmp 0)), (some 10, LOp.bin BinOp.eql (LX.tmp 9) (LX.con (AV.str []))), (some 8, LOp.mv (LX.tmp 10))]⟩]).seq (LCode.cond (LX.tmp 8) ((LCode.region [⟨none, [(some 2, LOp.mv (LX.con (AV.int IntKind.i64 0))), (some 3,
    LOp.mv (LX.con (AV.int IntKind.i64 0))), (some 4, LOp.mv (LX.con (AV.int IntKind.i64 20)))]⟩]).seq LCode.ret) ((LCode.region [⟨none, [(some 12, LOp.mv (LX.tmp 0)), (some 13, LOp.idx (LX.tmp 12) (LX.con (AV.int IntKind.i64 0))),
    (some 14, LOp.bin BinOp.and (LX.tmp 13) (LX.con (AV.int IntKind.u8 31))), (some 15, LOp.bin BinOp.gtr (LX.tmp 14) (LX.con (AV.int IntKind.u8 30))), (some 11, LOp.mv (LX.tmp 15))]⟩]).seq (LCode.cond (LX.tmp 11) ((LCode.region
    [⟨none, [(some 2, LOp.mv (LX.con (AV.int IntKind.i64 0))), (some 3, LOp.mv (LX.con (AV.int IntKind.i64 0))), (some 4, LOp.mv (LX.con (AV.int IntKind.i64 21)))]⟩]).seq LCode.ret) ((LCode.region [⟨none, [(some 17, LOp.mv (LX.tmp
    0)), (some 18, LOp.lenS (LX.tmp 17)), (some 19, LOp.bin BinOp.eql (LX.tmp 18) (LX.con (AV.int IntKind.i64 1))), (some 16, LOp.mv (LX.tmp 19))]⟩]).seq (LCode.cond (LX.tmp 16) ((LCode.region [⟨none, [(some 2, LOp.mv (LX.con
    (AV.int IntKind.i64 0))), (some 3, LOp.mv (LX.con (AV.int IntKind.i64 0))), (some 4, LOp.mv (LX.con (AV.int IntKind.i64 20)))]⟩]).seq LCode.ret) ((LCode.region [⟨none, [(some 21, LOp.mv (LX.tmp 0)), (some 22, LOp.idx (LX.tmp 21)
    (LX.con (AV.int IntKind.i64 1))), (some 23, LOp.bin BinOp.lss (LX.tmp 22) (LX.con (AV.int IntKind.u8 128))), (some 20, LOp.mv (LX.tmp 23))]⟩]).seq (LCode.cond (LX.tmp 20) ((LCode.quiet [⟨some 24, none, LOp.mv (LX.tmp 0), false,
    0, 0⟩, ⟨some 25, none, LOp.idx (LX.tmp 24) (LX.con (AV.int IntKind.i64 1)), false, 0, 0⟩, ⟨some 26, none, LOp.cvt (Cvt.int IntKind.i64) (LX.tmp 25), false, 0, 0⟩, ⟨some 2, none, LOp.mv (LX.con (AV.int IntKind.i64 2)), false, 0,
    0⟩, ⟨some 3, none, LOp.mv (LX.tmp 26), false, 0, 0⟩, ⟨some 4, none, LOp.mv (LX.con (AV.int IntKind.i64 0)), false, 0, 0⟩]).seq LCode.ret) LCode.skip))))))))).seq ((LCode.region [⟨none, [(some 27, LOp.mv (LX.tmp 0)), (some 28,
    LOp.idx (LX.tmp 27) (LX.con (AV.int IntKind.i64 1))), (some 29, LOp.cvt (Cvt.int IntKind.i64) (LX.tmp 28)), (some 30, LOp.bin BinOp.sub (LX.tmp 29) (LX.con (AV.int IntKind.i64 128))), (some 5, LOp.mv (LX.tmp 30))]⟩]).seq
    ((LCode.block 1 ((LCode.region [⟨none, [(some 32, LOp.mv (LX.tmp 5)), (some 33, LOp.bin BinOp.lss (LX.tmp 32) (LX.con (AV.int IntKind.i64 1))), (some 34, LOp.mv (LX.tmp 33))]⟩, ⟨some (34, false), [(some 35, LOp.mv (LX.tmp 5)),
    (some 36, LOp.bin BinOp.gtr (LX.tmp 35) (LX.con (AV.int IntKind.i64 4)))]⟩, ⟨none, [(some 37, LOp.pick (LX.tmp 34) (LX.con (AV.bool true)) (LX.tmp 36)), (some 31, LOp.mv (LX.tmp 37))]⟩]).seq (LCode.cond (LX.tmp 31)
    ((LCode.region [⟨none, [(some 2, LOp.mv (LX.con (AV.int IntKind.i64 0))), (some 3, LOp.mv (LX.con (AV.int IntKind.i64 0))), (some 4, LOp.mv (LX.con (AV.int IntKind.i64 22)))]⟩]).seq LCode.ret) ((LCode.region [⟨none, [(some 39,
    LOp.mv (LX.tmp 0)), (some 40, LOp.lenS (LX.tmp 39)), (some 41, LOp.mv (LX.tmp 5)), (some 42, LOp.bin BinOp.add (LX.con (AV.int IntKind.i64 2)) (LX.tmp 41)), (some 43, LOp.bin BinOp.lss (LX.tmp 40) (LX.tmp 42)), (some 38, LOp.mv
    (LX.tmp 43))]⟩]).seq (LCode.cond (LX.tmp 38) ((LCode.region [⟨none, [(some 2, LOp.mv (LX.con (AV.int IntKind.i64 0))), (some 3, LOp.mv (LX.con (AV.int IntKind.i64 0))), (some 4, LOp.mv (LX.con (AV.int IntKind.i64 20)))]⟩]).seq
    LCode.ret) LCode.skip))))).seq ((LCode.region [⟨none, [(some 45, LOp.mv (LX.tmp 0)), (some 46, LOp.mv (LX.tmp 5)), (some 47, LOp.bin BinOp.add (LX.con (AV.int IntKind.i64 2)) (LX.tmp 46)), (some 48, LOp.slcS (LX.tmp 45) (some
    (LX.con (AV.int IntKind.i64 2))) (some (LX.tmp 47))), (some 49, LOp.call 67 [LX.tmp 48]), (some 44, LOp.mv (LX.tmp 49)), (some 50, LOp.extr 0 (LX.tmp 44)), (some 51, LOp.extr 1 (LX.tmp 44)), (some 6, LOp.mv (LX.tmp 50)), (some
    7, LOp.mv (LX.tmp 51))]⟩]).seq (((LCode.region [⟨none, [(some 52, LOp.mv (LX.tmp 5)), (some 53, LOp.bin BinOp.add (LX.con (AV.int IntKind.i64 2)) (LX.tmp 52)), (some 54, LOp.mv (LX.tmp 6)), (some 55, LOp.bin BinOp.add (LX.tmp
    53) (LX.tmp 54)), (some 56, LOp.bin BinOp.gtr (LX.tmp 55) (LX.con (AV.int IntKind.i64 65536)))]⟩]).seq (LCode.cond (LX.tmp 56) ((LCode.region [⟨none, [(some 2, LOp.mv (LX.con (AV.int IntKind.i64 0))), (some 3, LOp.mv (LX.con
    (AV.int IntKind.i64 0))), (some 4, LOp.mv (LX.con (AV.int IntKind.i64 2)))]⟩]).seq LCode.ret) LCode.skip)).seq ((LCode.region [⟨none, [(some 57, LOp.mv (LX.tmp 5)), (some 58, LOp.bin BinOp.add (LX.con (AV.int IntKind.i64 2))
    (LX.tmp 57)), (some 59, LOp.mv (LX.tmp 6)), (some 2, LOp.mv (LX.tmp 58)), (some 3, LOp.mv (LX.tmp 59)), (some 4, LOp.mv (LX.con (AV.int IntKind.i64 0)))]⟩]).seq LCode.ret))))))
theorem low52 : lowerF prog 52 = some ⟨60, [LRes.tmp 2, LRes.tmp 3, LRes.tmp 4], B52⟩ := by kernel_rfl

@[irreducible] def B53 : LCode :=
  (LCode.region [⟨none, [(some 2, LOp.mv (LX.con (AV.str [])))]⟩]).seq ((LCode.region [⟨none, [(some 3, LOp.mv (LX.con (AV.int IntKind.i64 1)))]⟩]).seq ((LCode.block 0 (((LCode.region [⟨none, [(some 6, LOp.mv (LX.tmp 3)), (some 7,
    LOp.bin BinOp.lss (LX.tmp 6) (LX.con (AV.int IntKind.i64 8))), (some 8, LOp.mv (LX.tmp 7))]⟩, ⟨some (8, true), [(some 9, LOp.mv (LX.tmp 0)), (some 10, LOp.mv (LX.tmp 0)), (some 11, LOp.mv (LX.tmp 3)), (some 12, LOp.bin BinOp.mul
    (LX.con (AV.int IntKind.i64 8)) (LX.tmp 11)), (some 13, LOp.bin BinOp.sub (LX.con (AV.int IntKind.i64 64)) (LX.tmp 12)), (some 14, LOp.bin BinOp.shl (LX.tmp 10) (LX.tmp 13)), (some 15, LOp.mv (LX.tmp 3)), (some 16, LOp.bin
    BinOp.mul (LX.con (AV.int IntKind.i64 8)) (LX.tmp 15)), (some 17, LOp.bin BinOp.sub (LX.con (AV.int IntKind.i64 64)) (LX.tmp 16)), (some 18, LOp.bin BinOp.shr (LX.tmp 14) (LX.tmp 17)), (some 19, LOp.bin BinOp.neq (LX.tmp 9)
    (LX.tmp 18))]⟩, ⟨none, [(some 20, LOp.pick (LX.tmp 8) (LX.tmp 19) (LX.con (AV.bool false)))]⟩]).seq (LCode.cond (LX.tmp 20) LCode.skip (LCode.exit 0))).seq (LCode.block 1 (LCode.region [⟨none, [(some 21, LOp.mv (LX.tmp 3)),
    (some 22, LOp.bin BinOp.add (LX.tmp 21) (LX.con (AV.int IntKind.i64 1))), (some 3, LOp.mv (LX.tmp 22))]⟩]))).loop).seq ((LCode.region [⟨none, [(some 23, LOp.mv (LX.tmp 3)), (some 24, LOp.mkslice 5 1 1 [AV.int IntKind.u8 0]
    (LX.tmp 23) (LX.tmp 23)), (some 4, LOp.mv (LX.tmp 24))]⟩]).seq (((LCode.region [⟨none, [(some 25, LOp.mv (LX.tmp 4)), (some 26, LOp.len (LX.tmp 25)), (some 27, LOp.mv (LX.con (AV.int IntKind.i64 0)))]⟩]).seq (LCode.block 2
    ((LCode.region [⟨none, [(some 28, LOp.bin BinOp.lss (LX.tmp 27) (LX.tmp 26))]⟩]).seq ((LCode.cond (LX.tmp 28) LCode.skip (LCode.exit 2)).seq ((LCode.block 3 ((LCode.region [⟨none, [(some 29, LOp.mv (LX.tmp 27)), (some 5, LOp.mv
    (LX.tmp 29))]⟩]).seq (LCode.region [⟨none, [(some 30, LOp.mv (LX.tmp 4)), (some 31, LOp.mv (LX.tmp 3)), (some 32, LOp.bin BinOp.sub (LX.tmp 31) (LX.con (AV.int IntKind.i64 1))), (some 33, LOp.mv (LX.tmp 5)), (some 34, LOp.bin
    BinOp.sub (LX.tmp 32) (LX.tmp 33)), (some 35, LOp.mv (LX.tmp 0)), (some 36, LOp.cvt (Cvt.int IntKind.u64) (LX.tmp 35)), (some 37, LOp.mv (LX.tmp 5)), (some 38, LOp.bin BinOp.mul (LX.con (AV.int IntKind.i64 8)) (LX.tmp 37)),
    (some 39, LOp.bin BinOp.shr (LX.tmp 36) (LX.tmp 38)), (some 40, LOp.cvt (Cvt.int IntKind.u8) (LX.tmp 39)), (some 41, LOp.iaddr 1 (LX.tmp 30) (LX.tmp 34)), (none, LOp.store 1 (LX.tmp 41) (LX.tmp 40))]⟩]))).seq (LCode.region
    [⟨none, [(some 42, LOp.bin BinOp.add (LX.tmp 27) (LX.con (AV.int IntKind.i64 1))), (some 27, LOp.mv (LX.tmp 42))]⟩])))).loop)).seq ((LCode.region [⟨none, [(some 43, LOp.mv (LX.tmp 4)), (some 44, LOp.cvt Cvt.b2s (LX.tmp 43)),
    (some 2, LOp.mv (LX.tmp 44))]⟩]).seq LCode.ret)))))
theorem low53 : lowerF prog 53 = some ⟨45, [LRes.tmp 2], B53⟩ := by kernel_rfl

@[irreducible] def B54 : LCode :=
  (LCode.region [⟨none, [(some 2, LOp.mv (LX.con (AV.lit (Value.slice none 0 0))))]⟩]).seq ((LCode.region [⟨none, [(some 3, LOp.mv (LX.con (AV.lit (Value.slice none 0 0))))]⟩]).seq (((LCode.region [⟨none, [(some 6, LOp.mv (LX.tmp
    0)), (some 7, LOp.len (LX.tmp 6)), (some 8, LOp.mv (LX.con (AV.int IntKind.i64 0)))]⟩]).seq (LCode.block 0 ((LCode.region [⟨none, [(some 9, LOp.bin BinOp.lss (LX.tmp 8) (LX.tmp 7))]⟩]).seq ((LCode.cond (LX.tmp 9) LCode.skip
    (LCode.exit 0)).seq ((LCode.block 1 ((LCode.region [⟨none, [(some 10, LOp.iaddr 5 (LX.tmp 6) (LX.tmp 8)), (some 11, LOp.load true 5 (LX.tmp 10)), (some 5, LOp.alloc 24 [AV.int IntKind.i64 0, AV.int IntKind.i64 0, AV.bool false,
    AV.str [], AV.lit (Value.slice none 0 0)]), (none, LOp.store 5 (LX.tmp 5) (LX.tmp 11))]⟩]).seq ((LCode.region [⟨none, [(some 12, LOp.faddr 4 (LX.tmp 5)), (some 13, LOp.load false 1 (LX.tmp 12)), (some 14, LOp.call 54 [LX.tmp
    13]), (some 15, LOp.faddr 4 (LX.tmp 5)), (none, LOp.store 1 (LX.tmp 15) (LX.tmp 14))]⟩]).seq (LCode.region [⟨none, [(some 16, LOp.mv (LX.tmp 3)), (some 17, LOp.load true 5 (LX.tmp 5)), (some 18, LOp.bslice 24 5 [LX.tmp 17]),
    (some 19, LOp.append false 24 5 64 (LX.tmp 16) (LX.tmp 18)), (some 3, LOp.mv (LX.tmp 19))]⟩])))).seq (LCode.region [⟨none, [(some 20, LOp.bin BinOp.add (LX.tmp 8) (LX.con (AV.int IntKind.i64 1))), (some 8, LOp.mv (LX.tmp
    20))]⟩])))).loop)).seq ((LCode.region [⟨none, [(some 21, LOp.mv (LX.tmp 3)), (some 2, LOp.mv (LX.tmp 21))]⟩]).seq LCode.ret)))
theorem low54 : lowerF prog 54 = some ⟨22, [LRes.tmp 2], B54⟩ := by kernel_rfl

@[irreducible] def B55 : LCode :=
  (LCode.region [⟨none, [(some 2, LOp.mv (LX.con (AV.str [])))]⟩]).seq ((LCode.region [⟨none, [(some 3, LOp.mv (LX.con (AV.int IntKind.i64 1)))]⟩]).seq (LCode.block 0 ((LCode.block 1 ((LCode.region [⟨none, [(some 11, LOp.mv (LX.tmp
    3)), (some 12, LOp.mkslice 5 1 1 [AV.int IntKind.u8 0] (LX.tmp 11) (LX.tmp 11)), (some 4, LOp.mv (LX.tmp 12))]⟩]).seq ((LCode.region [⟨none, [(some 13, LOp.mv (LX.tmp 0)), (some 5, LOp.mv (LX.tmp 13))]⟩]).seq (((LCode.region
    [⟨none, [(some 14, LOp.mv (LX.tmp 3)), (some 15, LOp.bin BinOp.sub (LX.tmp 14) (LX.con (AV.int IntKind.i64 1))), (some 6, LOp.mv (LX.tmp 15))]⟩]).seq (LCode.block 2 (((LCode.region [⟨none, [(some 16, LOp.mv (LX.tmp 6)), (some
    17, LOp.bin BinOp.geq (LX.tmp 16) (LX.con (AV.int IntKind.i64 0)))]⟩]).seq (LCode.cond (LX.tmp 17) LCode.skip (LCode.exit 2))).seq ((LCode.block 3 ((LCode.region [⟨none, [(some 20, LOp.mv (LX.tmp 4)), (some 21, LOp.mv (LX.tmp
    6)), (some 22, LOp.mv (LX.tmp 5)), (some 23, LOp.bin BinOp.and (LX.tmp 22) (LX.con (AV.int IntKind.i64 255))), (some 24, LOp.cvt (Cvt.int IntKind.u8) (LX.tmp 23)), (some 25, LOp.iaddr 1 (LX.tmp 20) (LX.tmp 21)), (none, LOp.store
    1 (LX.tmp 25) (LX.tmp 24))]⟩]).seq (LCode.region [⟨none, [(some 26, LOp.mv (LX.tmp 5)), (some 27, LOp.bin BinOp.shr (LX.tmp 26) (LX.con (AV.int IntKind.u64 8))), (some 5, LOp.mv (LX.tmp 27))]⟩]))).seq (LCode.region [⟨none,
    [(some 18, LOp.mv (LX.tmp 6)), (some 19, LOp.bin BinOp.sub (LX.tmp 18) (LX.con (AV.int IntKind.i64 1))), (some 6, LOp.mv (LX.tmp 19))]⟩]))).loop)).seq ((LCode.region [⟨none, [(some 29, LOp.mv (LX.tmp 4)), (some 30, LOp.cvt
    Cvt.b2s (LX.tmp 29)), (some 31, LOp.call 59 [LX.tmp 30]), (some 28, LOp.mv (LX.tmp 31)), (some 32, LOp.extr 0 (LX.tmp 28)), (some 33, LOp.extr 1 (LX.tmp 28)), (some 7, LOp.mv (LX.tmp 32)), (some 8, LOp.mv (LX.tmp 33))]⟩]).seq
    ((LCode.region [⟨none, [(some 34, LOp.mv (LX.tmp 7)), (some 35, LOp.mv (LX.tmp 0)), (some 36, LOp.bin BinOp.eql (LX.tmp 34) (LX.tmp 35))]⟩]).seq (LCode.cond (LX.tmp 36) ((LCode.region [⟨none, [(some 37, LOp.mv (LX.tmp 4)), (some
    38, LOp.cvt Cvt.b2s (LX.tmp 37)), (some 2, LOp.mv (LX.tmp 38))]⟩]).seq LCode.ret) LCode.skip))))))).seq (LCode.region [⟨none, [(some 9, LOp.mv (LX.tmp 3)), (some 10, LOp.bin BinOp.add (LX.tmp 9) (LX.con (AV.int IntKind.i64 1))),
    (some 3, LOp.mv (LX.tmp 10))]⟩])).loop))
theorem low55 : lowerF prog 55 = some ⟨39, [LRes.tmp 2], B55⟩ := by kernel_rfl

@[irreducible] def B56 : LCode :=
  (LCode.region [⟨none, [(some 2, LOp.mv (LX.con (AV.int IntKind.i64 0))), (some 3, LOp.mv (LX.con (AV.int IntKind.i64 0)))]⟩]).seq (((LCode.region [⟨none, [(some 6, LOp.mv (LX.tmp 0)), (some 7, LOp.lenS (LX.tmp 6)), (some 8,
    LOp.bin BinOp.lss (LX.tmp 7) (LX.con (AV.int IntKind.i64 1))), (some 9, LOp.mv (LX.tmp 8))]⟩, ⟨some (9, false), [(some 10, LOp.mv (LX.tmp 0)), (some 11, LOp.lenS (LX.tmp 10)), (some 12, LOp.bin BinOp.gtr (LX.tmp 11) (LX.con
    (AV.int IntKind.i64 8)))]⟩, ⟨none, [(some 13, LOp.pick (LX.tmp 9) (LX.con (AV.bool true)) (LX.tmp 12))]⟩]).seq (LCode.cond (LX.tmp 13) ((LCode.region [⟨none, [(some 2, LOp.mv (LX.con (AV.int IntKind.i64 0))), (some 3, LOp.mv
    (LX.con (AV.int IntKind.i64 1)))]⟩]).seq LCode.ret) LCode.skip)).seq ((LCode.region [⟨none, [(some 14, LOp.mv (LX.tmp 0)), (some 15, LOp.idx (LX.tmp 14) (LX.con (AV.int IntKind.i64 0))), (some 16, LOp.cvt (Cvt.int IntKind.i8)
    (LX.tmp 15)), (some 17, LOp.cvt (Cvt.int IntKind.i64) (LX.tmp 16)), (some 4, LOp.mv (LX.tmp 17))]⟩]).seq (((LCode.region [⟨none, [(some 5, LOp.mv (LX.con (AV.int IntKind.i64 1)))]⟩]).seq (LCode.block 0 (((LCode.region [⟨none,
    [(some 18, LOp.mv (LX.tmp 5)), (some 19, LOp.mv (LX.tmp 0)), (some 20, LOp.lenS (LX.tmp 19)), (some 21, LOp.bin BinOp.lss (LX.tmp 18) (LX.tmp 20))]⟩]).seq (LCode.cond (LX.tmp 21) LCode.skip (LCode.exit 0))).seq ((LCode.block 1
    (LCode.region [⟨none, [(some 24, LOp.mv (LX.tmp 4)), (some 25, LOp.bin BinOp.shl (LX.tmp 24) (LX.con (AV.int IntKind.u64 8))), (some 26, LOp.mv (LX.tmp 0)), (some 27, LOp.mv (LX.tmp 5)), (some 28, LOp.idx (LX.tmp 26) (LX.tmp
    27)), (some 29, LOp.cvt (Cvt.int IntKind.i64) (LX.tmp 28)), (some 30, LOp.bin BinOp.or (LX.tmp 25) (LX.tmp 29)), (some 4, LOp.mv (LX.tmp 30))]⟩])).seq (LCode.region [⟨none, [(some 22, LOp.mv (LX.tmp 5)), (some 23, LOp.bin
    BinOp.add (LX.tmp 22) (LX.con (AV.int IntKind.i64 1))), (some 5, LOp.mv (LX.tmp 23))]⟩]))).loop)).seq ((LCode.region [⟨none, [(some 31, LOp.mv (LX.tmp 4)), (some 2, LOp.mv (LX.tmp 31)), (some 3, LOp.mv (LX.con (AV.int
    IntKind.i64 0)))]⟩]).seq LCode.ret))))
theorem low56 : lowerF prog 56 = some ⟨32, [LRes.tmp 2, LRes.tmp 3], B56⟩ := by kernel_rfl

@[irreducible] def B57 : LCode :=
  (LCode.region [⟨none, [(some 4, LOp.box 24 (LX.tmp 0)), (some 8, LOp.mv (LX.con (AV.bool false)))]⟩]).seq ((LCode.region [⟨none, [(some 9, LOp.faddr 0 (LX.tmp 4)), (some 10, LOp.load false 1 (LX.tmp 9)), (some 11, LOp.mv (LX.tmp
    1)), (some 12, LOp.bin BinOp.eql (LX.tmp 10) (LX.tmp 11)), (some 13, LOp.mv (LX.tmp 12))]⟩, ⟨some (13, true), [(some 14, LOp.faddr 1 (LX.tmp 4)), (some 15, LOp.load false 1 (LX.tmp 14)), (some 16, LOp.mv (LX.tmp 2)), (some 17,
    LOp.bin BinOp.eql (LX.tmp 15) (LX.tmp 16))]⟩, ⟨none, [(some 18, LOp.pick (LX.tmp 13) (LX.tmp 17) (LX.con (AV.bool false))), (some 19, LOp.mv (LX.tmp 18))]⟩, ⟨some (19, true), [(some 20, LOp.faddr 2 (LX.tmp 4)), (some 21,
    LOp.load false 1 (LX.tmp 20)), (some 22, LOp.mv (LX.tmp 3)), (some 23, LOp.eqb false (LX.tmp 21) (LX.tmp 22))]⟩, ⟨none, [(some 24, LOp.pick (LX.tmp 19) (LX.tmp 23) (LX.con (AV.bool false))), (some 8, LOp.mv (LX.tmp 24))]⟩]).seq
    LCode.ret)
theorem low57 : lowerF prog 57 = some ⟨25, [LRes.tmp 8], B57⟩ := by kernel_rfl

@[irreducible] def B58 : LCode :=
  (LCode.region [⟨none, [(some 4, LOp.box 24 (LX.tmp 0)), (some 8, LOp.mv (LX.con (AV.bool false)))]⟩]).seq ((LCode.region [⟨none, [(some 9, LOp.faddr 0 (LX.tmp 4)), (some 10, LOp.load false 1 (LX.tmp 9)), (some 11, LOp.mv (LX.tmp
    1)), (some 12, LOp.bin BinOp.eql (LX.tmp 10) (LX.tmp 11)), (some 13, LOp.mv (LX.tmp 12))]⟩, ⟨some (13, true), [(some 14, LOp.faddr 1 (LX.tmp 4)), (some 15, LOp.load false 1 (LX.tmp 14)), (some 16, LOp.mv (LX.tmp 2)), (some 17,
    LOp.bin BinOp.eql (LX.tmp 15) (LX.tmp 16))]⟩, ⟨none, [(some 18, LOp.pick (LX.tmp 13) (LX.tmp 17) (LX.con (AV.bool false))), (some 19, LOp.mv (LX.tmp 18))]⟩, ⟨some (19, true), [(some 20, LOp.faddr 2 (LX.tmp 4)), (some 21,
    LOp.load false 1 (LX.tmp 20)), (some 22, LOp.mv (LX.tmp 3)), (some 23, LOp.eqb false (LX.tmp 21) (LX.tmp 22))]⟩, ⟨none, [(some 24, LOp.pick (LX.tmp 19) (LX.tmp 23) (LX.con (AV.bool false))), (some 8, LOp.mv (LX.tmp 24))]⟩]).seq
    LCode.ret)
theorem low58 : lowerF prog 58 = some ⟨25, [LRes.tmp 8], B58⟩ := by kernel_rfl

@[irreducible] def B59 : LCode :=
  (LCode.region [⟨none, [(some 2, LOp.mv (LX.con (AV.int IntKind.i64 0))), (some 3, LOp.mv (LX.con (AV.int IntKind.i64 0)))]⟩]).seq (((LCode.region [⟨none, [(some 6, LOp.mv (LX.tmp 0)), (some 7, LOp.lenS (LX.tmp 6)), (some 8,
    LOp.bin BinOp.lss (LX.tmp 7) (LX.con (AV.int IntKind.i64 1))), (some 9, LOp.mv (LX.tmp 8))]⟩, ⟨some (9, false), [(some 10, LOp.mv (LX.tmp 0)), (some 11, LOp.lenS (LX.tmp 10)), (some 12, LOp.bin BinOp.gtr (LX.tmp 11) (LX.con
    (AV.int IntKind.i64 8)))]⟩, ⟨none, [(some 13, LOp.pick (LX.tmp 9) (LX.con (AV.bool true)) (LX.tmp 12))]⟩]).seq (LCode.cond (LX.tmp 13) ((LCode.region [⟨none, [(some 2, LOp.mv (LX.con (AV.int IntKind.i64 0))), (some 3, LOp.mv
    (LX.con (AV.int IntKind.i64 1)))]⟩]).seq LCode.ret) LCode.skip)).seq ((LCode.region [⟨none, [(some 4, LOp.mv (LX.con (AV.int IntKind.i64 0)))]⟩]).seq (((LCode.region [⟨none, [(some 14, LOp.mv (LX.tmp 0)), (some 15, LOp.idx
    (LX.tmp 14) (LX.con (AV.int IntKind.i64 0))), (some 16, LOp.bin BinOp.geq (LX.tmp 15) (LX.con (AV.int IntKind.u8 128)))]⟩]).seq (LCode.cond (LX.tmp 16) (LCode.region [⟨none, [(some 4, LOp.mv (LX.con (AV.int IntKind.i64
    (-1))))]⟩]) LCode.skip)).seq (((LCode.region [⟨none, [(some 5, LOp.mv (LX.con (AV.int IntKind.i64 0)))]⟩]).seq (LCode.block 0 (((LCode.region [⟨none, [(some 17, LOp.mv (LX.tmp 5)), (some 18, LOp.mv (LX.tmp 0)), (some 19,
    LOp.lenS (LX.tmp 18)), (some 20, LOp.bin BinOp.lss (LX.tmp 17) (LX.tmp 19))]⟩]).seq (LCode.cond (LX.tmp 20) LCode.skip (LCode.exit 0))).seq ((LCode.block 1 (LCode.region [⟨none, [(some 23, LOp.mv (LX.tmp 4)), (some 24, LOp.bin
    BinOp.mul (LX.tmp 23) (LX.con (AV.int IntKind.i64 256))), (some 25, LOp.mv (LX.tmp 0)), (some 26, LOp.mv (LX.tmp 5)), (some 27, LOp.idx (LX.tmp 25) (LX.tmp 26)), (some 28, LOp.cvt (Cvt.int IntKind.i64) (LX.tmp 27)), (some 29,
    LOp.bin BinOp.add (LX.tmp 24) (LX.tmp 28)), (some 4, LOp.mv (LX.tmp 29))]⟩])).seq (LCode.region [⟨none, [(some 21, LOp.mv (LX.tmp 5)), (some 22, LOp.bin BinOp.add (LX.tmp 21) (LX.con (AV.int IntKind.i64 1))), (some 5, LOp.mv
    (LX.tmp 22))]⟩]))).loop)).seq ((LCode.region [⟨none, [(some 30, LOp.mv (LX.tmp 4)), (some 2, LOp.mv (LX.tmp 30)), (some 3, LOp.mv (LX.con (AV.int IntKind.i64 0)))]⟩]).seq LCode.ret)))))
theorem low59 : lowerF prog 59 = some ⟨31, [LRes.tmp 2, LRes.tmp 3], B59⟩ := by kernel_rfl

@[irreducible] def B60 : LCode :=
  (LCode.region [⟨none, [(some 2, LOp.mv (LX.con (AV.int IntKind.i64 0))), (some 3, LOp.mv (LX.con (AV.int IntKind.i64 0))), (some 4, LOp.mv (LX.con (AV.int IntKind.i64 0)))]⟩]).seq (((LCode.region [⟨none, [(some 8, LOp.mv (LX.tmp
    0)), (some 9, LOp.lenS (LX.tmp 8)), (some 10, LOp.bin BinOp.lss (LX.tmp 9) (LX.con (AV.int IntKind.i64 1)))]⟩]).seq (LCode.cond (LX.tmp 10) ((LCode.region [⟨none, [(some 2, LOp.mv (LX.con (AV.int IntKind.i64 0))), (some 3,
    LOp.mv (LX.con (AV.int IntKind.i64 0))), (some 4, LOp.mv (LX.con (AV.int IntKind.i64 20)))]⟩]).seq LCode.ret) LCode.skip)).seq (((LCode.region [⟨none, [(some 11, LOp.mv (LX.tmp 0)), (some 12, LOp.idx (LX.tmp 11) (LX.con (AV.int
    IntKind.i64 0))), (some 13, LOp.bin BinOp.rem (LX.tmp 12) (LX.con (AV.int IntKind.u8 32))), (some 14, LOp.bin BinOp.eql (LX.tmp 13) (LX.con (AV.int IntKind.u8 31)))]⟩]).seq (LCode.cond (LX.tmp 14) ((LCode.region [⟨none, [(some
    2, LOp.mv (LX.con (AV.int IntKind.i64 0))), (some 3, LOp.mv (LX.con (AV.int IntKind.i64 0))), (some 4, LOp.mv (LX.con (AV.int IntKind.i64 21)))]⟩]).seq LCode.ret) LCode.skip)).seq (((LCode.region [⟨none, [(some 15, LOp.mv
    (LX.tmp 0)), (some 16, LOp.lenS (LX.tmp 15)), (some 17, LOp.bin BinOp.lss (LX.tmp 16) (LX.con (AV.int IntKind.i64 2)))]⟩]).seq (LCode.cond (LX.tmp 17) ((LCode.region [⟨none, [(some 2, LOp.mv (LX.con (AV.int IntKind.i64 0))),
    (some 3, LOp.mv (LX.con (AV.int IntKind.i64 0))), (some 4, LOp.mv (LX.con (AV.int IntKind.i64 20)))]⟩]).seq LCode.ret) LCode.skip)).seq (((LCode.region [⟨none, [(some 18, LOp.mv (LX.tmp 0)), (some 19, LOp.idx (LX.tmp 18) (LX.con
    (AV.int IntKind.i64 1))), (some 20, LOp.bin BinOp.lss (LX.tmp 19) (LX.con (AV.int IntKind.u8 128)))]⟩]).seq (LCode.cond (LX.tmp 20) ((LCode.quiet [⟨some 21, none, LOp.mv (LX.tmp 0), false, 0, 0⟩, ⟨some 22, none, LOp.idx (LX.tmp
    21) (LX.con (AV.int IntKind.i64 1)), false, 0, 0⟩, ⟨some 23, none, LOp.cvt (Cvt.int IntKind.i64) (LX.tmp 22), false, 0, 0⟩, ⟨some 2, none, LOp.mv (LX.con (AV.int IntKind.i64 2)), false, 0, 0⟩, ⟨some 3, none, LOp.mv (LX.tmp 23),
    false, 0, 0⟩, ⟨some 4, none, LOp.mv (LX.con (AV.int IntKind.i64 0)), false, 0, 0⟩]).seq LCode.ret) LCode.skip)).seq ((LCode.region [⟨none, [(some 24, LOp.mv (LX.tmp 0)), (some 25, LOp.idx (LX.tmp 24) (LX.con (AV.int IntKind.i64
    1))), (some 26, LOp.cvt (Cvt.int IntKind.i64) (LX.tmp 25)), (some 27, LOp.bin BinOp.sub (LX.tmp 26) (LX.con (AV.int IntKind.i64 128))), (some 5, LOp.mv (LX.tmp 27))]⟩]).seq (((LCode.region [⟨none, [(some 28, LOp.mv (LX.tmp 5)),
    (some 29, LOp.bin BinOp.lss (LX.tmp 28) (LX.con (AV.int IntKind.i64 1))), (some 30, LOp.mv (LX.tmp 29))]⟩, ⟨some (30, false), [(some 31, LOp.mv (LX.tmp 5)), (some 32, LOp.bin BinOp.gtr (LX.tmp 31) (LX.con (AV.int IntKind.i64
    4)))]⟩, ⟨none, [(some 33, LOp.pick (LX.tmp 30) (LX.con (AV.bool true)) (LX.tmp 32))]⟩]).seq (LCode.cond (LX.tmp 33) ((LCode.region [⟨none, [(some 2, LOp.mv (LX.con (AV.int IntKind.i64 0))), (some 3, LOp.mv (LX.con (AV.int
    IntKind.i64 0))), (some 4, LOp.mv (LX.con (AV.int IntKind.i64 22)))]⟩]).seq LCode.ret) LCode.skip)).seq (((LCode.region [⟨none, [(some 34, LOp.mv (LX.tmp 0)), (some 35, LOp.lenS (LX.tmp 34)), (some 36, LOp.mv (LX.tmp 5)), (some
    37, LOp.bin BinOp.add (LX.con (AV.int IntKind.i64 2)) (LX.tmp 36)), (some 38, LOp.bin BinOp.lss (LX.tmp 35) (LX.tmp 37))]⟩]).seq (LCode.cond (LX.tmp 38) ((LCode.region [⟨none, [(some 2, LOp.mv (LX.con (AV.int IntKind.i64 0))),
    (some 3, LOp.mv (LX.con (AV.int IntKind.i64 0))), (some 4, LOp.mv (LX.con (AV.int IntKind.i64 20)))]⟩]).seq LCode.ret) LCode.skip)).seq ((LCode.region [⟨none, [(some 40, LOp.mv (LX.tmp 0)), (some 41, LOp.mv (LX.tmp 5)), (some
    42, LOp.bin BinOp.add (LX.con (AV.int IntKind.i64 2)) (LX.tmp 41)), (some 43, LOp.slcS (LX.tmp 40) (some (LX.con (AV.int IntKind.i64 2))) (some (LX.tmp 42))), (some 44, LOp.call 68 [LX.tmp 43]), (some 39, LOp.mv (LX.tmp 44)),
    (some 45, LOp.extr 0 (LX.tmp 39)), (some 46, LOp.extr 1 (LX.tmp 39)), (some 6, LOp.mv (LX.tmp 45)), (some 7, LOp.mv (LX.tmp 46))]⟩]).seq ((LCode.region [⟨none, [(some 47, LOp.mv (LX.tmp 5)), (some 48, LOp.bin BinOp.add (LX.con
    (AV.int IntKind.i64 2)) (LX.tmp 47)), (some 49, LOp.mv (LX.tmp 6)), (some 2, LOp.mv (LX.tmp 48)), (some 3, LOp.mv (LX.tmp 49)), (some 4, LOp.mv (LX.con (AV.int IntKind.i64 0)))]⟩]).seq LCode.ret)))))))))
theorem low60 : lowerF prog 60 = some ⟨50, [LRes.tmp 2, LRes.tmp 3, LRes.tmp 4], B60⟩ := by kernel_rfl

@[irreducible] def B62 : LCode :=
  (LCode.region [⟨none, [(some 4, LOp.alloc 24 [AV.int IntKind.i64 0, AV.int IntKind.i64 0, AV.bool false, AV.str [], AV.lit (Value.slice none 0 0)]), (some 5, LOp.mv (LX.con (AV.str [])))]⟩]).seq ((LCode.region [⟨none, [(some 13,
    LOp.mv (LX.tmp 0)), (some 14, LOp.call 52 [LX.tmp 13]), (some 12, LOp.mv (LX.tmp 14)), (some 15, LOp.extr 0 (LX.tmp 12)), (some 16, LOp.extr 1 (LX.tmp 12)), (some 17, LOp.extr 2 (LX.tmp 12)), (some 6, LOp.mv (LX.tmp 15)), (some
    7, LOp.mv (LX.tmp 16)), (some 8, LOp.mv (LX.tmp 17))]⟩]).seq ((LCode.block 0 ((LCode.region [⟨none, [(some 19, LOp.mv (LX.tmp 8)), (some 20, LOp.bin BinOp.neq (LX.tmp 19) (LX.con (AV.int IntKind.i64 0))), (some 18, LOp.mv
    (LX.tmp 20))]⟩]).seq (LCode.cond (LX.tmp 18) (LCode.region [⟨none, [(some 21, LOp.mv (LX.tmp 8)), (some 22, LOp.iface 28 (LX.tmp 21)), (none, LOp.panic (LX.tmp 22))]⟩]) ((LCode.region [⟨none, [(some 24, LOp.mv (LX.tmp 1)), (some
    25, LOp.bin BinOp.geq (LX.tmp 24) (LX.con (AV.int IntKind.i64 20))), (some 23, LOp.mv (LX.tmp 25))]⟩]).seq (LCode.cond (LX.tmp 23) (LCode.region [⟨none, [(some 26, LOp.iface 28 (LX.con (AV.int IntKind.i64 23))), (none, LOp.panic
    (LX.tmp 26))]⟩]) ((LCode.region [⟨none, [(some 28, LOp.mv (LX.tmp 0)), (some 29, LOp.lenS (LX.tmp 28)), (some 30, LOp.mv (LX.tmp 6)), (some 31, LOp.mv (LX.tmp 7)), (some 32, LOp.bin BinOp.add (LX.tmp 30) (LX.tmp 31)), (some 33,
    LOp.bin BinOp.lss (LX.tmp 29) (LX.tmp 32)), (some 27, LOp.mv (LX.tmp 33))]⟩]).seq (LCode.cond (LX.tmp 27) (LCode.region [⟨none, [(some 34, LOp.iface 28 (LX.con (AV.int IntKind.i64 20))), (none, LOp.panic (LX.tmp 34))]⟩])
    LCode.skip))))))).seq ((LCode.quiet [⟨some 35, none, LOp.mv (LX.tmp 0), false, 0, 1⟩, ⟨some 36, none, LOp.idx (LX.tmp 35) (LX.con (AV.int IntKind.i64 0)), false, 0, 1⟩, ⟨some 37, none, LOp.bin BinOp.shr (LX.tmp 36) (LX.con
    (AV.int IntKind.u64 6)), false, 0, 1⟩, ⟨some 38, none, LOp.cvt (Cvt.int IntKind.i64) (LX.tmp 37), false, 0, 1⟩, ⟨some 39, none, LOp.mv (LX.tmp 0), false, 0, 1⟩, ⟨some 40, none, LOp.idx (LX.tmp 39) (LX.con (AV.int IntKind.i64
    0)), false, 0, 1⟩, ⟨some 41, none, LOp.bin BinOp.and (LX.tmp 40) (LX.con (AV.int IntKind.u8 31)), false, 0, 1⟩, ⟨some 42, none, LOp.cvt (Cvt.int IntKind.i64) (LX.tmp 41), false, 0, 1⟩, ⟨some 43, none, LOp.mv (LX.tmp 0), false,
    0, 1⟩, ⟨some 44, none, LOp.idx (LX.tmp 43) (LX.con (AV.int IntKind.i64 0)), false, 0, 1⟩, ⟨some 45, none, LOp.bin BinOp.and (LX.tmp 44) (LX.con (AV.int IntKind.u8 32)), false, 0, 1⟩, ⟨some 46, none, LOp.bin BinOp.neq (LX.tmp 45)
    (LX.con (AV.int IntKind.u8 0)), false, 0, 1⟩, ⟨some 47, none, LOp.build [AV.int IntKind.i64 0, AV.int IntKind.i64 0, AV.bool false, AV.str [], AV.lit (Value.slice none 0 0)] [(0, 1, LX.tmp 38), (1, 1, LX.tmp 42), (2, 1, LX.tmp
    46)], false, 0, 1⟩, ⟨some 9, none, LOp.alloc 24 [AV.int IntKind.i64 0, AV.int IntKind.i64 0, AV.bool false, AV.str [], AV.lit (Value.slice none 0 0)], true, 0, 0⟩, ⟨none, none, LOp.store 5 (LX.tmp 9) (LX.tmp 47), true, 0,
    0⟩]).seq ((LCode.region [⟨none, [(some 48, LOp.mv (LX.tmp 0)), (some 49, LOp.mv (LX.tmp 6)), (some 50, LOp.mv (LX.tmp 6)), (some 51, LOp.mv (LX.tmp 7)), (some 52, LOp.bin BinOp.add (LX.tmp 50) (LX.tmp 51)), (some 53, LOp.slcS
    (LX.tmp 48) (some (LX.tmp 49)) (some (LX.tmp 52))), (some 10, LOp.mv (LX.tmp 53))]⟩]).seq (((LCode.region [⟨none, [(some 54, LOp.faddr 2 (LX.tmp 9)), (some 55, LOp.load false 1 (LX.tmp 54)), (some 56, LOp.un UnOp.not (LX.tmp
    55))]⟩]).seq (LCode.cond (LX.tmp 56) ((LCode.region [⟨none, [(some 57, LOp.mv (LX.tmp 10)), (some 58, LOp.call 69 [LX.tmp 57]), (some 59, LOp.faddr 3 (LX.tmp 9)), (none, LOp.store 1 (LX.tmp 59) (LX.tmp 58))]⟩]).seq ((LCode.quiet
    [⟨some 60, none, LOp.load true 5 (LX.tmp 9), false, 0, 0⟩, ⟨some 61, none, LOp.mv (LX.tmp 0), false, 0, 1⟩, ⟨some 62, none, LOp.mv (LX.tmp 6), false, 0, 1⟩, ⟨some 63, none, LOp.mv (LX.tmp 7), false, 0, 1⟩, ⟨some 64, none,
    LOp.bin BinOp.add (LX.tmp 62) (LX.tmp 63), false, 0, 1⟩, ⟨some 65, none, LOp.slcS (LX.tmp 61) (some (LX.tmp 64)) none, false, 0, 1⟩, ⟨none, none, LOp.store 5 (LX.tmp 4) (LX.tmp 60), true, 0, 0⟩, ⟨some 5, none, LOp.mv (LX.tmp
    65), false, 0, 0⟩]).seq LCode.ret)) LCode.skip)).seq ((LCode.block 1 (((LCode.region [⟨none, [(some 66, LOp.mv (LX.tmp 10)), (some 67, LOp.bin BinOp.neq (LX.tmp 66) (LX.con (AV.str [])))]⟩]).seq (LCode.cond (LX.tmp 67)
    LCode.skip (LCode.exit 1))).seq (LCode.block 2 ((LCode.region [⟨none, [(some 11, LOp.alloc 24 [AV.int IntKind.i64 0, AV.int IntKind.i64 0, AV.bool false, AV.str [], AV.lit (Value.slice none 0 0)])]⟩]).seq ((LCode.region [⟨none,
    [(some 69, LOp.mv (LX.tmp 10)), (some 70, LOp.mv (LX.tmp 1)), (some 71, LOp.bin BinOp.add (LX.tmp 70) (LX.con (AV.int IntKind.i64 1))), (some 72, LOp.call 62 [LX.tmp 69, LX.tmp 71]), (some 68, LOp.mv (LX.tmp 72)), (some 73,
    LOp.extr 0 (LX.tmp 68)), (some 74, LOp.extr 1 (LX.tmp 68)), (none, LOp.store 5 (LX.tmp 11) (LX.tmp 73)), (some 10, LOp.mv (LX.tmp 74))]⟩]).seq (LCode.region [⟨none, [(some 75, LOp.faddr 4 (LX.tmp 9)), (some 76, LOp.load false 1
    (LX.tmp 75)), (some 77, LOp.load true 5 (LX.tmp 11)), (some 78, LOp.bslice 24 5 [LX.tmp 77]), (some 79, LOp.append false 24 5 64 (LX.tmp 76) (LX.tmp 78)), (some 80, LOp.faddr 4 (LX.tmp 9)), (none, LOp.store 1 (LX.tmp 80) (LX.tmp
    79))]⟩]))))).loop).seq ((LCode.quiet [⟨some 81, none, LOp.load true 5 (LX.tmp 9), false, 0, 0⟩, ⟨some 82, none, LOp.mv (LX.tmp 0), false, 0, 1⟩, ⟨some 83, none, LOp.mv (LX.tmp 6), false, 0, 1⟩, ⟨some 84, none, LOp.mv (LX.tmp 7),
    false, 0, 1⟩, ⟨some 85, none, LOp.bin BinOp.add (LX.tmp 83) (LX.tmp 84), false, 0, 1⟩, ⟨some 86, none, LOp.slcS (LX.tmp 82) (some (LX.tmp 85)) none, false, 0, 1⟩, ⟨none, none, LOp.store 5 (LX.tmp 4) (LX.tmp 81), true, 0, 0⟩,
    ⟨some 5, none, LOp.mv (LX.tmp 86), false, 0, 0⟩]).seq LCode.ret)))))))
theorem low62 : lowerF prog 62 = some ⟨87, [LRes.cell 4 true 5, LRes.tmp 5], B62⟩ := by kernel_rfl

@[irreducible] def B63 : LCode :=
  (LCode.region [⟨none, [(some 4, LOp.alloc 24 [AV.int IntKind.i64 0, AV.int IntKind.i64 0, AV.bool false, AV.str [], AV.lit (Value.slice none 0 0)]), (some 5, LOp.mv (LX.con (AV.int IntKind.i64 0))), (some 6, LOp.mv (LX.con (AV.int
    IntKind.i64 0)))]⟩]).seq ((LCode.region [⟨none, [(some 17, LOp.mv (LX.tmp 0)), (some 18, LOp.call 39 [LX.tmp 17]), (some 16, LOp.mv (LX.tmp 18)), (some 19, LOp.extr 0 (LX.tmp 16)), (some 20, LOp.extr 1 (LX.tmp 16)), (some 7,
    LOp.mv (LX.tmp 19)), (some 8, LOp.mv (LX.tmp 20))]⟩]).seq (((LCode.region [⟨none, [(some 21, LOp.mv (LX.tmp 8)), (some 22, LOp.bin BinOp.neq (LX.tmp 21) (LX.con (AV.int IntKind.i64 0)))]⟩]).seq (LCode.cond (LX.tmp 22)
    ((LCode.region [⟨none, [(some 23, LOp.build [AV.int IntKind.i64 0, AV.int IntKind.i64 0, AV.bool false, AV.str [], AV.lit (Value.slice none 0 0)] []), (some 24, LOp.mv (LX.tmp 8)), (none, LOp.store 5 (LX.tmp 4) (LX.tmp 23)),
    (some 5, LOp.mv (LX.con (AV.int IntKind.i64 0))), (some 6, LOp.mv (LX.tmp 24))]⟩]).seq LCode.ret) LCode.skip)).seq (((LCode.region [⟨none, [(some 25, LOp.mv (LX.tmp 1)), (some 26, LOp.bin BinOp.geq (LX.tmp 25) (LX.con (AV.int
    IntKind.i64 20)))]⟩]).seq (LCode.cond (LX.tmp 26) ((LCode.region [⟨none, [(some 27, LOp.build [AV.int IntKind.i64 0, AV.int IntKind.i64 0, AV.bool false, AV.str [], AV.lit (Value.slice none 0 0)] []), (none, LOp.store 5 (LX.tmp
    4) (LX.tmp 27)), (some 5, LOp.mv (LX.con (AV.int IntKind.i64 0))), (some 6, LOp.mv (LX.con (AV.int IntKind.i64 23)))]⟩]).seq LCode.ret) LCode.skip)).seq (((LCode.region [⟨none, [(some 28, LOp.mv (LX.tmp 7)), (some 29, LOp.mv
    (LX.tmp 0)), (some 30, LOp.lenS (LX.tmp 29)), (some 31, LOp.bin BinOp.gtr (LX.tmp 28) (LX.tmp 30))]⟩]).seq (LCode.cond (LX.tmp 31) ((LCode.region [⟨none, [(some 32, LOp.build [AV.int IntKind.i64 0, AV.int IntKind.i64 0, AV.bool
    false, AV.str [], AV.lit (Value.slice none 0 0)] []), (none, LOp.store 5 (LX.tmp 4) (LX.tmp 32)), (some 5, LOp.mv (LX.con (AV.int IntKind.i64 0))), (some 6, LOp.mv (LX.con (AV.int IntKind.i64 20)))]⟩]).seq LCode.ret)
    LCode.skip)).seq ((LCode.region [⟨none, [(some 34, LOp.mv (LX.tmp 0)), (some 35, LOp.call 60 [LX.tmp 34]), (some 33, LOp.mv (LX.tmp 35)), (some 36, LOp.extr 0 (LX.tmp 33)), (some 37, LOp.extr 1 (LX.tmp 33)), (some 38, LOp.extr 2
    (LX.tmp 33)), (some 9, LOp.mv (LX.tmp 36)), (some 10, LOp.mv (LX.tmp 37)), (some 11, LOp.mv (LX.tmp 38))]⟩]).seq ((LCode.quiet [⟨some 39, none, LOp.mv (LX.tmp 0), false, 0, 1⟩, ⟨some 40, none, LOp.idx (LX.tmp 39) (LX.con (AV.int
    IntKind.i64 0)), false, 0, 1⟩, ⟨some 41, none, LOp.bin BinOp.quo (LX.tmp 40) (LX.con (AV.int IntKind.u8 64)), false, 0, 1⟩, ⟨some 42, none, LOp.cvt (Cvt.int IntKind.i64) (LX.tmp 41), false, 0, 1⟩, ⟨some 43, none, LOp.mv (LX.tmp
    0), false, 0, 1⟩, ⟨some 44, none, LOp.idx (LX.tmp 43) (LX.con (AV.int IntKind.i64 0)), false, 0, 1⟩, ⟨some 45, none, LOp.bin BinOp.rem (LX.tmp 44) (LX.con (AV.int IntKind.u8 32)), false, 0, 1⟩, ⟨some 46, none, LOp.cvt (Cvt.int
    IntKind.i64) (LX.tmp 45), false, 0, 1⟩, ⟨some 47, none, LOp.mv (LX.tmp 0), false, 0, 1⟩, ⟨some 48, none, LOp.idx (LX.tmp 47) (LX.con (AV.int IntKind.i64 0)), false, 0, 1⟩, ⟨some 49, none, LOp.bin BinOp.quo (LX.tmp 48) (LX.con
    (AV.int IntKind.u8 32)), false, 0, 1⟩, ⟨some 50, none, LOp.bin BinOp.rem (LX.tmp 49) (LX.con (AV.int IntKind.u8 2)), false, 0, 1⟩, ⟨some 51, none, LOp.bin BinOp.eql (LX.tmp 50) (LX.con (AV.int IntKind.u8 1)), false, 0, 1⟩, ⟨some
    52, none, LOp.build [AV.int IntKind.i64 0, AV.int IntKind.i64 0, AV.bool false, AV.str [], AV.lit (Value.slice none 0 0)] [(0, 1, LX.tmp 42), (1, 1, LX.tmp 46), (2, 1, LX.tmp 51)], false, 0, 1⟩, ⟨some 12, none, LOp.alloc 24
    [AV.int IntKind.i64 0, AV.int IntKind.i64 0, AV.bool false, AV.str [], AV.lit (Value.slice none 0 0)], true, 0, 0⟩, ⟨none, none, LOp.store 5 (LX.tmp 12) (LX.tmp 52), true, 0, 0⟩]).seq (((LCode.region [⟨none, [(some 53, LOp.faddr
    2 (LX.tmp 12)), (some 54, LOp.load false 1 (LX.tmp 53)), (some 55, LOp.un UnOp.not (LX.tmp 54))]⟩]).seq (LCode.cond (LX.tmp 55) ((LCode.region [⟨none, [(some 56, LOp.mv (LX.tmp 0)), (some 57, LOp.mv (LX.tmp 9)), (some 58, LOp.mv
    (LX.tmp 7)), (some 59, LOp.slcS (LX.tmp 56) (some (LX.tmp 57)) (some (LX.tmp 58))), (some 60, LOp.faddr 3 (LX.tmp 12)), (none, LOp.store 1 (LX.tmp 60) (LX.tmp 59))]⟩]).seq ((LCode.region [⟨none, [(some 61, LOp.load true 5
    (LX.tmp 12)), (some 62, LOp.mv (LX.tmp 7)), (none, LOp.store 5 (LX.tmp 4) (LX.tmp 61)), (some 5, LOp.mv (LX.tmp 62)), (some 6, LOp.mv (LX.con (AV.int IntKind.i64 0)))]⟩]).seq LCode.ret)) LCode.skip)).seq ((LCode.block 0
    (((LCode.region [⟨none, [(some 63, LOp.mv (LX.tmp 9)), (some 64, LOp.mv (LX.tmp 7)), (some 65, LOp.bin BinOp.lss (LX.tmp 63) (LX.tmp 64))]⟩]).seq (LCode.cond (LX.tmp 65) LCode.skip (LCode.exit 0))).seq (LCode.block 1
    ((LCode.region [⟨none, [(some 67, LOp.mv (LX.tmp 0)), (some 68, LOp.mv (LX.tmp 9)), (some 69, LOp.mv (LX.tmp 7)), (some 70, LOp.slcS (LX.tmp 67) (some (LX.tmp 68)) (some (LX.tmp 69))), (some 71, LOp.mv (LX.tmp 1)), (some 72,
    LOp.bin BinOp.add (LX.tmp 71) (LX.con (AV.int IntKind.i64 1))), (some 73, LOp.call 63 [LX.tmp 70, LX.tmp 72]), (some 66, LOp.mv (LX.tmp 73)), (some 74, LOp.extr 0 (LX.tmp 66)), (some 75, LOp.extr 1 (LX.tmp 66)), (some 76,
    LOp.extr 2 (LX.tmp 66)), (some 13, LOp.alloc 24 [AV.int IntKind.i64 0, AV.int IntKind.i64 0, AV.bool false, AV.str [], AV.lit (Value.slice none 0 0)]), (none, LOp.store 5 (LX.tmp 13) (LX.tmp 74)), (some 14, LOp.mv (LX.tmp 75)),
    (some 15, LOp.mv (LX.tmp 76))]⟩]).seq (((LCode.region [⟨none, [(some 77, LOp.mv (LX.tmp 15)), (some 78, LOp.bin BinOp.neq (LX.tmp 77) (LX.con (AV.int IntKind.i64 0)))]⟩]).seq (LCode.cond (LX.tmp 78) ((LCode.region [⟨none, [(some
    79, LOp.build [AV.int IntKind.i64 0, AV.int IntKind.i64 0, AV.bool false, AV.str [], AV.lit (Value.slice none 0 0)] []), (some 80, LOp.mv (LX.tmp 15)), (none, LOp.store 5 (LX.tmp 4) (LX.tmp 79)), (some 5, LOp.mv (LX.con (AV.int
    IntKind.i64 0))), (some 6, LOp.mv (LX.tmp 80))]⟩]).seq LCode.ret) LCode.skip)).seq ((LCode.region [⟨none, [(some 81, LOp.faddr 4 (LX.tmp 12)), (some 82, LOp.load false 1 (LX.tmp 81)), (some 83, LOp.load true 5 (LX.tmp 13)),
    (some 84, LOp.bslice 24 5 [LX.tmp 83]), (some 85, LOp.append false 24 5 64 (LX.tmp 82) (LX.tmp 84)), (some 86, LOp.faddr 4 (LX.tmp 12)), (none, LOp.store 1 (LX.tmp 86) (LX.tmp 85))]⟩]).seq (LCode.region [⟨none, [(some 87, LOp.mv
    (LX.tmp 9)), (some 88, LOp.mv (LX.tmp 14)), (some 89, LOp.bin BinOp.add (LX.tmp 87) (LX.tmp 88)), (some 9, LOp.mv (LX.tmp 89))]⟩])))))).loop).seq ((LCode.region [⟨none, [(some 90, LOp.load true 5 (LX.tmp 12)), (some 91, LOp.mv
    (LX.tmp 7)), (none, LOp.store 5 (LX.tmp 4) (LX.tmp 90)), (some 5, LOp.mv (LX.tmp 91)), (some 6, LOp.mv (LX.con (AV.int IntKind.i64 0)))]⟩]).seq LCode.ret)))))))))
theorem low63 : lowerF prog 63 = some ⟨92, [LRes.cell 4 true 5, LRes.tmp 5, LRes.tmp 6], B63⟩ := by kernel_rfl

@[irreducible] def B64 : LCode :=
  (LCode.region [⟨none, [(some 2, LOp.mv (LX.con (AV.str [])))]⟩]).seq (((LCode.region [⟨none, [(some 6, LOp.mv (LX.tmp 0)), (some 7, LOp.bin BinOp.lss (LX.tmp 6) (LX.con (AV.int IntKind.i64 128)))]⟩]).seq (LCode.cond (LX.tmp 7)
    ((LCode.region [⟨none, [(some 8, LOp.mv (LX.tmp 0)), (some 9, LOp.cvt (Cvt.int IntKind.u8) (LX.tmp 8)), (some 10, LOp.bslice 5 1 [LX.tmp 9]), (some 11, LOp.cvt Cvt.b2s (LX.tmp 10)), (some 2, LOp.mv (LX.tmp 11))]⟩]).seq
    LCode.ret) LCode.skip)).seq ((LCode.region [⟨none, [(some 3, LOp.mv (LX.con (AV.int IntKind.i64 1)))]⟩]).seq ((LCode.block 0 (((LCode.region [⟨none, [(some 12, LOp.mv (LX.tmp 0)), (some 13, LOp.mv (LX.tmp 3)), (some 14, LOp.bin
    BinOp.mul (LX.con (AV.int IntKind.i64 8)) (LX.tmp 13)), (some 15, LOp.bin BinOp.shr (LX.tmp 12) (LX.tmp 14)), (some 16, LOp.bin BinOp.neq (LX.tmp 15) (LX.con (AV.int IntKind.i64 0)))]⟩]).seq (LCode.cond (LX.tmp 16) LCode.skip
    (LCode.exit 0))).seq (LCode.block 1 (LCode.region [⟨none, [(some 17, LOp.mv (LX.tmp 3)), (some 18, LOp.bin BinOp.add (LX.tmp 17) (LX.con (AV.int IntKind.i64 1))), (some 3, LOp.mv (LX.tmp 18))]⟩]))).loop).seq ((LCode.region
    [⟨none, [(some 20, LOp.mv (LX.tmp 0)), (some 21, LOp.mv (LX.tmp 3)), (some 22, LOp.call 70 [LX.tmp 20, LX.tmp 21]), (some 19, LOp.mv (LX.tmp 22)), (some 23, LOp.extr 0 (LX.tmp 19)), (some 24, LOp.extr 1 (LX.tmp 19)), (some 4,
    LOp.mv (LX.tmp 23)), (some 5, LOp.mv (LX.tmp 24))]⟩]).seq ((LCode.region [⟨none, [(some 25, LOp.mv (LX.tmp 3)), (some 26, LOp.bin BinOp.add (LX.con (AV.int IntKind.i64 128)) (LX.tmp 25)), (some 27, LOp.cvt (Cvt.int IntKind.u8)
    (LX.tmp 26)), (some 28, LOp.bslice 5 1 [LX.tmp 27]), (some 29, LOp.cvt Cvt.b2s (LX.tmp 28)), (some 30, LOp.mv (LX.tmp 4)), (some 31, LOp.bin BinOp.add (LX.tmp 29) (LX.tmp 30)), (some 2, LOp.mv (LX.tmp 31))]⟩]).seq LCode.ret)))))
theorem low64 : lowerF prog 64 = some ⟨32, [LRes.tmp 2], B64⟩ := by kernel_rfl

@[irreducible] def B65 : LCode :=
  (LCode.region [⟨none, [(some 4, LOp.mv (LX.con (AV.lit Value.nilIface)))]⟩]).seq ((LCode.region [⟨none, [(some 5, LOp.mv (LX.tmp 0)), (some 6, LOp.call 71 [LX.tmp 5])]⟩]).seq ((LCode.region [⟨none, [(some 7, LOp.mv (LX.tmp 0)),
    (some 8, LOp.mv (LX.tmp 0)), (some 9, LOp.nilchk (LX.tmp 8)), (some 10, LOp.faddr 1 (LX.tmp 9)), (some 11, LOp.load false 1 (LX.tmp 10)), (some 12, LOp.mv (LX.tmp 1)), (some 13, LOp.bslice 5 1 [LX.tmp 12]), (some 14, LOp.append
    false 5 1 1 (LX.tmp 11) (LX.tmp 13)), (some 15, LOp.nilchk (LX.tmp 7)), (some 16, LOp.faddr 1 (LX.tmp 15)), (none, LOp.store 1 (LX.tmp 16) (LX.tmp 14))]⟩]).seq ((LCode.region [⟨none, [(some 4, LOp.mv (LX.con (AV.lit
    Value.nilIface)))]⟩]).seq LCode.ret)))
theorem low65 : lowerF prog 65 = some ⟨17, [LRes.tmp 4], B65⟩ := by kernel_rfl

@[irreducible] def B66 : LCode :=
  (LCode.region [⟨none, [(some 4, LOp.mv (LX.con (AV.int IntKind.i64 0))), (some 5, LOp.mv (LX.con (AV.lit Value.nilIface)))]⟩]).seq ((LCode.region [⟨none, [(some 6, LOp.mv (LX.tmp 0)), (some 7, LOp.call 71 [LX.tmp 6])]⟩]).seq
    ((LCode.region [⟨none, [(some 8, LOp.mv (LX.tmp 0)), (some 9, LOp.mv (LX.tmp 0)), (some 10, LOp.nilchk (LX.tmp 9)), (some 11, LOp.faddr 1 (LX.tmp 10)), (some 12, LOp.load false 1 (LX.tmp 11)), (some 13, LOp.mv (LX.tmp 1)), (some
    14, LOp.append true 5 1 1 (LX.tmp 12) (LX.tmp 13)), (some 15, LOp.nilchk (LX.tmp 8)), (some 16, LOp.faddr 1 (LX.tmp 15)), (none, LOp.store 1 (LX.tmp 16) (LX.tmp 14))]⟩]).seq ((LCode.region [⟨none, [(some 17, LOp.mv (LX.tmp 1)),
    (some 18, LOp.lenS (LX.tmp 17)), (some 4, LOp.mv (LX.tmp 18)), (some 5, LOp.mv (LX.con (AV.lit Value.nilIface)))]⟩]).seq LCode.ret)))
theorem low66 : lowerF prog 66 = some ⟨19, [LRes.tmp 4, LRes.tmp 5], B66⟩ := by kernel_rfl

@[irreducible] def B67 : LCode :=
  (LCode.region [⟨none, [(some 2, LOp.mv (LX.con (AV.int IntKind.i64 0))), (some 3, LOp.mv (LX.con (AV.int IntKind.i64 0)))]⟩]).seq (((LCode.region [⟨none, [(some 6, LOp.mv (LX.tmp 0)), (some 7, LOp.lenS (LX.tmp 6)), (some 8,
    LOp.bin BinOp.lss (LX.tmp 7) (LX.con (AV.int IntKind.i64 1))), (some 9, LOp.mv (LX.tmp 8))]⟩, ⟨some (9, false), [(some 10, LOp.mv (LX.tmp 0)), (some 11, LOp.lenS (LX.tmp 10)), (some 12, LOp.bin BinOp.gtr (LX.tmp 11) (LX.con
    (AV.int IntKind.i64 7)))]⟩, ⟨none, [(some 13, LOp.pick (LX.tmp 9) (LX.con (AV.bool true)) (LX.tmp 12))]⟩]).seq (LCode.cond (LX.tmp 13) ((LCode.region [⟨none, [(some 2, LOp.mv (LX.con (AV.int IntKind.i64 0))), (some 3, LOp.mv
    (LX.con (AV.int IntKind.i64 1)))]⟩]).seq LCode.ret) LCode.skip)).seq ((LCode.region [⟨none, [(some 4, LOp.mv (LX.con (AV.int IntKind.i64 0)))]⟩]).seq (((LCode.region [⟨none, [(some 14, LOp.mv (LX.tmp 0)), (some 15, LOp.lenS
    (LX.tmp 14)), (some 16, LOp.mv (LX.con (AV.int IntKind.i64 0)))]⟩]).seq (LCode.block 0 ((LCode.region [⟨none, [(some 17, LOp.bin BinOp.lss (LX.tmp 16) (LX.tmp 15))]⟩]).seq ((LCode.cond (LX.tmp 17) LCode.skip (LCode.exit 0)).seq
    ((LCode.block 1 ((LCode.region [⟨none, [(some 18, LOp.mv (LX.tmp 16)), (some 5, LOp.mv (LX.tmp 18))]⟩]).seq (LCode.region [⟨none, [(some 19, LOp.mv (LX.tmp 4)), (some 20, LOp.bin BinOp.shl (LX.tmp 19) (LX.con (AV.int IntKind.u64
    8))), (some 21, LOp.mv (LX.tmp 0)), (some 22, LOp.mv (LX.tmp 5)), (some 23, LOp.idx (LX.tmp 21) (LX.tmp 22)), (some 24, LOp.cvt (Cvt.int IntKind.i64) (LX.tmp 23)), (some 25, LOp.bin BinOp.or (LX.tmp 20) (LX.tmp 24)), (some 4,
    LOp.mv (LX.tmp 25))]⟩]))).seq (LCode.region [⟨none, [(some 26, LOp.bin BinOp.add (LX.tmp 16) (LX.con (AV.int IntKind.i64 1))), (some 16, LOp.mv (LX.tmp 26))]⟩])))).loop)).seq ((LCode.region [⟨none, [(some 27, LOp.mv (LX.tmp 4)),
    (some 2, LOp.mv (LX.tmp 27)), (some 3, LOp.mv (LX.con (AV.int IntKind.i64 0)))]⟩]).seq LCode.ret))))
theorem low67 : lowerF prog 67 = some ⟨28, [LRes.tmp 2, LRes.tmp 3], B67⟩ := by kernel_rfl

@[irreducible] def B68 : LCode :=
  (LCode.region [⟨none, [(some 2, LOp.mv (LX.con (AV.int IntKind.i64 0))), (some 3, LOp.mv (LX.con (AV.int IntKind.i64 0)))]⟩]).seq (((LCode.region [⟨none, [(some 6, LOp.mv (LX.tmp 0)), (some 7, LOp.lenS (LX.tmp 6)), (some 8,
    LOp.bin BinOp.lss (LX.tmp 7) (LX.con (AV.int IntKind.i64 1))), (some 9, LOp.mv (LX.tmp 8))]⟩, ⟨some (9, false), [(some 10, LOp.mv (LX.tmp 0)), (some 11, LOp.lenS (LX.tmp 10)), (some 12, LOp.bin BinOp.gtr (LX.tmp 11) (LX.con
    (AV.int IntKind.i64 7)))]⟩, ⟨none, [(some 13, LOp.pick (LX.tmp 9) (LX.con (AV.bool true)) (LX.tmp 12))]⟩]).seq (LCode.cond (LX.tmp 13) ((LCode.region [⟨none, [(some 2, LOp.mv (LX.con (AV.int IntKind.i64 0))), (some 3, LOp.mv
    (LX.con (AV.int IntKind.i64 1)))]⟩]).seq LCode.ret) LCode.skip)).seq ((LCode.region [⟨none, [(some 4, LOp.mv (LX.con (AV.int IntKind.i64 0)))]⟩]).seq (((LCode.region [⟨none, [(some 5, LOp.mv (LX.con (AV.int IntKind.i64
    0)))]⟩]).seq (LCode.block 0 (((LCode.region [⟨none, [(some 14, LOp.mv (LX.tmp 5)), (some 15, LOp.mv (LX.tmp 0)), (some 16, LOp.lenS (LX.tmp 15)), (some 17, LOp.bin BinOp.lss (LX.tmp 14) (LX.tmp 16))]⟩]).seq (LCode.cond (LX.tmp
    17) LCode.skip (LCode.exit 0))).seq ((LCode.block 1 (LCode.region [⟨none, [(some 20, LOp.mv (LX.tmp 4)), (some 21, LOp.bin BinOp.mul (LX.tmp 20) (LX.con (AV.int IntKind.i64 256))), (some 22, LOp.mv (LX.tmp 0)), (some 23, LOp.mv
    (LX.tmp 5)), (some 24, LOp.idx (LX.tmp 22) (LX.tmp 23)), (some 25, LOp.cvt (Cvt.int IntKind.i64) (LX.tmp 24)), (some 26, LOp.bin BinOp.add (LX.tmp 21) (LX.tmp 25)), (some 4, LOp.mv (LX.tmp 26))]⟩])).seq (LCode.region [⟨none,
    [(some 18, LOp.mv (LX.tmp 5)), (some 19, LOp.bin BinOp.add (LX.tmp 18) (LX.con (AV.int IntKind.i64 1))), (some 5, LOp.mv (LX.tmp 19))]⟩]))).loop)).seq ((LCode.region [⟨none, [(some 27, LOp.mv (LX.tmp 4)), (some 2, LOp.mv (LX.tmp
    27)), (some 3, LOp.mv (LX.con (AV.int IntKind.i64 0)))]⟩]).seq LCode.ret))))
theorem low68 : lowerF prog 68 = some ⟨28, [LRes.tmp 2, LRes.tmp 3], B68⟩ := by kernel_rfl

@[irreducible] def B69 : LCode :=
  (LCode.region [⟨none, [(some 2, LOp.mv (LX.con (AV.str [])))]⟩]).seq ((LCode.region [⟨none, [(some 3, LOp.mv (LX.tmp 0)), (some 4, LOp.call 72 [LX.tmp 3]), (some 2, LOp.mv (LX.tmp 4))]⟩]).seq LCode.ret)
theorem low69 : lowerF prog 69 = some ⟨5, [LRes.tmp 2], B69⟩ := by kernel_rfl

@[irreducible] def B70 : LCode :=
  (LCode.region [⟨none, [(some 4, LOp.mv (LX.con (AV.str []))), (some 5, LOp.mv (LX.con (AV.int IntKind.i64 0)))]⟩]).seq (((LCode.region [⟨none, [(some 8, LOp.mv (LX.tmp 1)), (some 9, LOp.bin BinOp.lss (LX.tmp 8) (LX.con (AV.int
    IntKind.i64 1))), (some 10, LOp.mv (LX.tmp 9))]⟩, ⟨some (10, false), [(some 11, LOp.mv (LX.tmp 1)), (some 12, LOp.bin BinOp.gtr (LX.tmp 11) (LX.con (AV.int IntKind.i64 7)))]⟩, ⟨none, [(some 13, LOp.pick (LX.tmp 10) (LX.con
    (AV.bool true)) (LX.tmp 12)), (some 14, LOp.mv (LX.tmp 13))]⟩, ⟨some (14, false), [(some 15, LOp.mv (LX.tmp 0)), (some 16, LOp.bin BinOp.lss (LX.tmp 15) (LX.con (AV.int IntKind.i64 0)))]⟩, ⟨none, [(some 17, LOp.pick (LX.tmp 14)
    (LX.con (AV.bool true)) (LX.tmp 16)), (some 18, LOp.mv (LX.tmp 17))]⟩, ⟨some (18, false), [(some 19, LOp.mv (LX.tmp 0)), (some 20, LOp.mv (LX.tmp 1)), (some 21, LOp.bin BinOp.mul (LX.con (AV.int IntKind.i64 8)) (LX.tmp 20)),
    (some 22, LOp.bin BinOp.shr (LX.tmp 19) (LX.tmp 21)), (some 23, LOp.bin BinOp.neq (LX.tmp 22) (LX.con (AV.int IntKind.i64 0)))]⟩, ⟨none, [(some 24, LOp.pick (LX.tmp 18) (LX.con (AV.bool true)) (LX.tmp 23))]⟩]).seq (LCode.cond
    (LX.tmp 24) ((LCode.region [⟨none, [(some 4, LOp.mv (LX.con (AV.str []))), (some 5, LOp.mv (LX.con (AV.int IntKind.i64 1)))]⟩]).seq LCode.ret) LCode.skip)).seq ((LCode.region [⟨none, [(some 25, LOp.mv (LX.tmp 1)), (some 26,
    LOp.mkslice 5 1 1 [AV.int IntKind.u8 0] (LX.tmp 25) (LX.tmp 25)), (some 6, LOp.mv (LX.tmp 26))]⟩]).seq (((LCode.region [⟨none, [(some 27, LOp.mv (LX.tmp 6)), (some 28, LOp.len (LX.tmp 27)), (some 29, LOp.mv (LX.con (AV.int
    IntKind.i64 0)))]⟩]).seq (LCode.block 0 ((LCode.region [⟨none, [(some 30, LOp.bin BinOp.lss (LX.tmp 29) (LX.tmp 28))]⟩]).seq ((LCode.cond (LX.tmp 30) LCode.skip (LCode.exit 0)).seq ((LCode.block 1 ((LCode.region [⟨none, [(some
    31, LOp.mv (LX.tmp 29)), (some 7, LOp.mv (LX.tmp 31))]⟩]).seq (LCode.region [⟨none, [(some 32, LOp.mv (LX.tmp 6)), (some 33, LOp.mv (LX.tmp 1)), (some 34, LOp.bin BinOp.sub (LX.tmp 33) (LX.con (AV.int IntKind.i64 1))), (some 35,
    LOp.mv (LX.tmp 7)), (some 36, LOp.bin BinOp.sub (LX.tmp 34) (LX.tmp 35)), (some 37, LOp.mv (LX.tmp 0)), (some 38, LOp.mv (LX.tmp 7)), (some 39, LOp.bin BinOp.mul (LX.con (AV.int IntKind.i64 8)) (LX.tmp 38)), (some 40, LOp.bin
    BinOp.shr (LX.tmp 37) (LX.tmp 39)), (some 41, LOp.cvt (Cvt.int IntKind.u8) (LX.tmp 40)), (some 42, LOp.iaddr 1 (LX.tmp 32) (LX.tmp 36)), (none, LOp.store 1 (LX.tmp 42) (LX.tmp 41))]⟩]))).seq (LCode.region [⟨none, [(some 43,
    LOp.bin BinOp.add (LX.tmp 29) (LX.con (AV.int IntKind.i64 1))), (some 29, LOp.mv (LX.tmp 43))]⟩])))).loop)).seq ((LCode.region [⟨none, [(some 44, LOp.mv (LX.tmp 6)), (some 45, LOp.cvt Cvt.b2s (LX.tmp 44)), (some 4, LOp.mv
    (LX.tmp 45)), (some 5, LOp.mv (LX.con (AV.int IntKind.i64 0)))]⟩]).seq LCode.ret))))
theorem low70 : lowerF prog 70 = some ⟨46, [LRes.tmp 4, LRes.tmp 5], B70⟩ := by kernel_rfl

@[irreducible] def B71 : LCode :=
  (LCode.region [⟨none, [(some 2, LOp.mv (LX.tmp 0)), (some 3, LOp.nilchk (LX.tmp 2)), (some 4, LOp.faddr 0 (LX.tmp 3)), (some 5, LOp.load false 1 (LX.tmp 4)), (some 6, LOp.peq false (LX.tmp 5) (LX.con (AV.lit (Value.pointer
    none))))]⟩]).seq (LCode.cond (LX.tmp 6) (LCode.region [⟨none, [(some 7, LOp.mv (LX.tmp 0)), (some 8, LOp.mv (LX.tmp 0)), (some 9, LOp.p2u (LX.tmp 8)), (some 10, LOp.noesc (LX.tmp 9)), (some 11, LOp.u2p 60 2 (LX.tmp 10)), (some
    12, LOp.nilchk (LX.tmp 7)), (some 13, LOp.faddr 0 (LX.tmp 12)), (none, LOp.store 1 (LX.tmp 13) (LX.tmp 11))]⟩]) ((LCode.region [⟨none, [(some 14, LOp.mv (LX.tmp 0)), (some 15, LOp.nilchk (LX.tmp 14)), (some 16, LOp.faddr 0
    (LX.tmp 15)), (some 17, LOp.load false 1 (LX.tmp 16)), (some 18, LOp.mv (LX.tmp 0)), (some 19, LOp.peq true (LX.tmp 17) (LX.tmp 18))]⟩]).seq (LCode.cond (LX.tmp 19) LCode.bad LCode.skip)))
theorem low71 : lowerF prog 71 = some ⟨20, [], B71⟩ := by kernel_rfl

@[irreducible] def B72 : LCode :=
  (LCode.region [⟨none, [(some 2, LOp.mv (LX.con (AV.str [])))]⟩]).seq (((LCode.region [⟨none, [(some 4, LOp.mv (LX.tmp 0)), (some 5, LOp.lenS (LX.tmp 4)), (some 6, LOp.bin BinOp.eql (LX.tmp 5) (LX.con (AV.int IntKind.i64
    0)))]⟩]).seq (LCode.cond (LX.tmp 6) ((LCode.region [⟨none, [(some 2, LOp.mv (LX.con (AV.str [])))]⟩]).seq LCode.ret) LCode.skip)).seq ((LCode.region [⟨none, [(some 7, LOp.mv (LX.tmp 0)), (some 8, LOp.lenS (LX.tmp 7)), (some 9,
    LOp.mkslice 5 1 1 [AV.int IntKind.u8 0] (LX.tmp 8) (LX.tmp 8)), (some 3, LOp.mv (LX.tmp 9))]⟩]).seq ((LCode.region [⟨none, [(some 10, LOp.mv (LX.tmp 3)), (some 11, LOp.mv (LX.tmp 0)), (some 12, LOp.copyS (LX.tmp 10) (LX.tmp
    11))]⟩]).seq ((LCode.region [⟨none, [(some 13, LOp.mv (LX.tmp 3)), (some 14, LOp.iaddr 1 (LX.tmp 13) (LX.con (AV.int IntKind.i64 0))), (some 15, LOp.mv (LX.tmp 3)), (some 16, LOp.len (LX.tmp 15)), (some 17, LOp.sstr 5 (LX.tmp
    14) (LX.tmp 16)), (some 2, LOp.mv (LX.tmp 17))]⟩]).seq LCode.ret))))
theorem low72 : lowerF prog 72 = some ⟨18, [LRes.tmp 2], B72⟩ := by kernel_rfl

end Go.Proofs.Ytmlllckecalaaaa.Eng

namespace Go.Proofs.Ytmlllckecalaaaa.Eng
open Go Go.Proofs.Try

/-! ## strings.Builder -/
/-- The builder at `l` holds `bs`; its row, if it has one, is named from `m` on. -/
def BS (m : Nat) (S : Store) (l : Nat) (bs : List UInt8) : Prop :=
  m ≤ l ∧ l < S.n ∧ ((∃ a, (a = .lit (.pointer none) ∨ a = .ptr l 0) ∧ S.get l = some (.box 60 [a, .lit (.slice none 0 0)]) ∧ bs = []) ∨
    ∃ k, m ≤ k ∧ k < S.n ∧ k ≠ l ∧ S.get l = some (.box 60 [.ptr l 0, .own k 0 bs.length]) ∧ S.get k = some (.row 5 1 0 (byteRow bs)) ∧ bs ≠ [])
theorem BS.grow {m : Nat} {S T : Store} {l : Nat} {bs : List UInt8} (h : BS m S l bs) (hn : S.n ≤ T.n) (hT : ∀ j, j < S.n → T.get j = S.get j) : BS m T l bs := by
  obtain ⟨h0, h1, ⟨a, ha, h2, h3⟩ | ⟨k, hk, hkS, hkl, h2, h3, h4⟩⟩ := h
  · exact ⟨h0, by omega, .inl ⟨a, ha, by rw [hT l h1]; exact h2, h3⟩⟩
  · exact ⟨h0, by omega, .inr ⟨k, hk, by omega, hkl, by rw [hT l h1]; exact h2, by rw [hT k hkS]; exact h3, h4⟩⟩
/-- What lies below `m` is as it was, and every variable but `l`. -/
structure Low (m l : Nat) (S T : Store) : Prop where
  n : S.n ≤ T.n
  get : ∀ j, j < m → j ≠ l → T.get j = S.get j
  box : ∀ j t cs, j ≠ l → S.get j = some (.box t cs) → T.get j = some (.box t cs)
  bnd : ∀ j o, T.get j = some o → (∃ o', S.get j = some o') ∨ j < T.n
theorem Low.refl (m l : Nat) (S : Store) : Low m l S S := ⟨Nat.le_refl _, fun _ _ _ => rfl, fun _ _ _ _ h => h, fun j o h => .inl ⟨o, h⟩⟩
theorem Low.trans {m l : Nat} {S T U : Store} (h : Low m l S T) (k : Low m l T U) : Low m l S U :=
  ⟨Nat.le_trans h.n k.n, fun j hj hl => (k.get j hj hl).trans (h.get j hj hl), fun j t cs hl e => k.box j t cs hl (h.box j t cs hl e), fun j o e => by
    rcases k.bnd j o e with ⟨o', e'⟩ | e'
    · rcases h.bnd j o' e' with h' | h'
      · exact .inl h'
      · exact .inr (Nat.lt_of_lt_of_le h' k.n)
    · exact .inr e'⟩
theorem Low.setl {m l : Nat} {S T : Store} (h : Low m l S T) (o : Option AObj) (hl : l < S.n) : Low m l S (T.set l o) :=
  ⟨h.n, fun j hj hl => by rw [Store.get_set_ne _ _ hl]; exact h.get j hj hl, fun j t cs hl e => by rw [Store.get_set_ne _ _ hl]; exact h.box j t cs hl e, fun j o' e => by
    by_cases ej : j = l
    · subst ej; exact .inr (Nat.lt_of_lt_of_le hl h.n)
    · rw [Store.get_set_ne _ _ ej] at e; exact h.bnd j o' e⟩
theorem Low.setk {m l k : Nat} {S T : Store} (h : Low m l S T) (hk : m ≤ k) (hn : ∀ t cs, S.get k ≠ some (.box t cs)) : Low m l S (T.set k none) :=
  ⟨h.n, fun j hj hl => by rw [Store.get_set_ne _ _ (by omega)]; exact h.get j hj hl, fun j t cs hl e => by
    rw [Store.get_set_ne _ _ (fun ej => by subst ej; exact hn _ _ e)]; exact h.box j t cs hl e, fun j o' e => by
    by_cases ej : j = k
    · subst ej; rw [Store.get_set_same] at e; cases e
    · rw [Store.get_set_ne _ _ ej] at e; exact h.bnd j o' e⟩
theorem Low.push {m l : Nat} {S T : Store} (h : Low m l S T) (o : AObj) (hm : m ≤ T.n) (hwf : ∀ j o, S.get j = some o → j < S.n) : Low m l S (T.push o) :=
  ⟨Nat.le_succ_of_le h.n, fun j hj hl => by rw [Store.get_push_ne _ _ (by omega)]; exact h.get j hj hl, fun j t cs hl e => by
    have := hwf j _ e; have := h.n
    rw [Store.get_push_ne _ _ (by omega)]; exact h.box j t cs hl e, fun j o' e => by
    by_cases ej : j = T.n
    · subst ej; exact .inr (Nat.lt_succ_self _)
    · rw [Store.get_push_ne _ _ ej] at e
      rcases h.bnd j o' e with h' | h'
      · exact .inl h'
      · exact .inr (Nat.lt_succ_of_lt h')⟩
theorem Low.bound {m l : Nat} {S T : Store} (h : Low m l S T) (hwf : ∀ j o, S.get j = some o → j < S.n) : ∀ j o, T.get j = some o → j < T.n := fun j o e => by
  rcases h.bnd j o e with ⟨o', e'⟩ | e'
  · exact Nat.lt_of_lt_of_le (hwf j o' e') h.n
  · exact e'
theorem WF.lt {S : Store} (h : WF S) : ∀ j o, S.get j = some o → j < S.n := fun j o e => (h j o e).1

/-- copyCheck: the address is laid down. -/
theorem c71 (S : Store) (l : Nat) (a b : AV) (h : S.get l = some (.box 60 [a, b])) (ha : a = .lit (.pointer none) ∨ a = .ptr l 0) :
    ACalls prog 71 [.ptr l 0] S fun r S' => r = .ret (.tup []) ∧ S' = S.set l (some (.box 60 [.ptr l 0, b])) := by
  refine acalls_of_vc low71 (by simp) ?_
  rcases ha with rfl | rfl
  · simp -implicitDefEqProofs only [B71, h, vc_region, vc_quiet, vcD_nil, vcD_val, vcD_eff, vcD_guard, vcDOut, vcDEff, vcDGuard, saysAll, pendAll, pendNext, addPend, Says, vc_bad, vc_seq, vc_ret, vc_skip, vc_cond, vcCond, vc_block, vc_exit, vcGrps_nil, vcGrps_cons, vcGrps_guard, vcGuard, vcOps_nil, vcOps_cons, vcOut, KCall_ret, KCall_pan, skipF_nil, skipF_cons, Qseq_normal, Qseq_ret, Qseq_exit, Qseq_pan, Qblk_normal, Qblk_exit, Qblk_ret, Qblk_pan, Qpan_eq, Qcut_normal, Qcut_exit, Qcut_ret, Qcut_pan, Qloop_normal, Qloop_exit, Qloop_ret, Qloop_pan,
    stepOp, ev, upd_apply, putF, cellsOf, deref, faddrV, mk, abin, abinI, abinS, ibits, aeqb, aun, fldV, idxOf, elems, isPtr, putRef, splice, fillA, rowsA, minV, peqV, elemsA, rowBytes, strOf, Store.get_push, Store.get_set, Store.n_push, Store.n_set,
    Option.map_some, Option.map_none, reduceIte, Nat.reduceEqDiff, Nat.reduceAdd, Nat.reduceLeDiff, Nat.reduceLT, Nat.zero_add, Nat.add_zero, Nat.add_assoc, Nat.add_left_cancel_iff, Nat.left_eq_add, Nat.add_eq_left, Nat.lt_irrefl, Nat.le_refl,
    List.drop_zero, List.drop_succ_cons, List.take_succ_cons, List.take_zero, List.headD_cons, List.length_cons, List.length_nil, List.getElem?_cons_zero, List.getElem?_cons_succ, List.set_cons_zero, List.set_cons_succ, List.map_cons, List.map_nil,
    Bool.not_true, Bool.not_false, Bool.false_eq_true, Bool.true_eq_false, Bool.not_eq_true', Bool.not_eq_false', eq_self, false_imp_iff, true_imp_iff, and_true, true_and, and_false, false_and, or_true, true_or, initFr, fr0_at, Qend, resL, resV1, pack,
    decide_eq_true_eq, decide_eq_false_iff_not, Int.toNat_natCast, Option.some.injEq, exists_eq_left', vcCond_T, vcCond_F]
  · simp -implicitDefEqProofs only [B71, h, vc_region, vc_quiet, vcD_nil, vcD_val, vcD_eff, vcD_guard, vcDOut, vcDEff, vcDGuard, saysAll, pendAll, pendNext, addPend, Says, vc_bad, vc_seq, vc_ret, vc_skip, vc_cond, vcCond, vc_block, vc_exit, vcGrps_nil, vcGrps_cons, vcGrps_guard, vcGuard, vcOps_nil, vcOps_cons, vcOut, KCall_ret, KCall_pan, skipF_nil, skipF_cons, Qseq_normal, Qseq_ret, Qseq_exit, Qseq_pan, Qblk_normal, Qblk_exit, Qblk_ret, Qblk_pan, Qpan_eq, Qcut_normal, Qcut_exit, Qcut_ret, Qcut_pan, Qloop_normal, Qloop_exit, Qloop_ret, Qloop_pan,
    stepOp, ev, upd_apply, putF, cellsOf, deref, faddrV, mk, abin, abinI, abinS, ibits, aeqb, aun, fldV, idxOf, elems, isPtr, putRef, splice, fillA, rowsA, minV, peqV, elemsA, rowBytes, strOf, Store.get_push, Store.get_set, Store.n_push, Store.n_set,
    Option.map_some, Option.map_none, reduceIte, Nat.reduceEqDiff, Nat.reduceAdd, Nat.reduceLeDiff, Nat.reduceLT, Nat.zero_add, Nat.add_zero, Nat.add_assoc, Nat.add_left_cancel_iff, Nat.left_eq_add, Nat.add_eq_left, Nat.lt_irrefl, Nat.le_refl,
    List.drop_zero, List.drop_succ_cons, List.take_succ_cons, List.take_zero, List.headD_cons, List.length_cons, List.length_nil, List.getElem?_cons_zero, List.getElem?_cons_succ, List.set_cons_zero, List.set_cons_succ, List.map_cons, List.map_nil,
    Bool.not_true, Bool.not_false, Bool.false_eq_true, Bool.true_eq_false, Bool.not_eq_true', Bool.not_eq_false', eq_self, false_imp_iff, true_imp_iff, and_true, true_and, and_false, false_and, or_true, true_or, initFr, fr0_at, Qend, resL, resV1, pack,
    decide_eq_true_eq, decide_eq_false_iff_not, Int.toNat_natCast, Option.some.injEq, exists_eq_left', vcCond_T, vcCond_F]
    exact (Store.set_self _ _ _ h).symm

theorem byteRow_append (a b : List UInt8) : byteRow (a ++ b) = byteRow a ++ byteRow b := by simp [byteRow]
theorem byteRow_length (a : List UInt8) : (byteRow a).length = a.length := by simp [byteRow]

theorem low_own {m : Nat} {S : Store} {l k : Nat} {o1 o2 o3 : AObj} (hwf : WF S) (hl : l < S.n) (hm : m ≤ S.n) (hk : m ≤ k) {t s frz : Nat} {es : List (List AV)} (hrow : S.get k = some (.row t s frz es)) : Low m l S ((((S.set l (some o1)).set k none).push o2).set l (some o3)) :=
  ((((Low.refl m l S).setl _ hl).setk hk (fun _ _ h => by rw [hrow] at h; cases h)).push _ hm hwf.lt).setl _ hl
theorem low_new {m : Nat} {S : Store} {l : Nat} {o1 o2 o3 : AObj} (hwf : WF S) (hl : l < S.n) (hm : m ≤ S.n) : Low m l S (((S.set l (some o1)).push o2).set l (some o3)) :=
  (((Low.refl m l S).setl _ hl).push _ hm hwf.lt).setl _ hl
theorem bs_new {m : Nat} {S : Store} {l : Nat} {o : AObj} {bs : List UInt8} {n : Nat} (hm : m ≤ S.n) (hml : m ≤ l) (hl : l < S.n) (hn : n = bs.length) (hne : bs ≠ []) {T : Store} (hT : T.n = S.n) :
    BS m ((T.push (.row 5 1 0 (byteRow bs))).set l (some (.box 60 [.ptr l 0, .own S.n 0 n]))) l bs := by
  subst hn
  refine ⟨hml, by rw [Store.n_set, Store.n_push, hT]; omega, .inr ⟨S.n, hm, by rw [Store.n_set, Store.n_push, hT]; omega, by omega, by rw [Store.get_set_same], ?_, hne⟩⟩
  rw [Store.get_set_ne _ _ (by omega), Store.get_push, hT, if_pos rfl]

theorem c65 (m : Nat) (S : Store) (l : Nat) (bs : List UInt8) (c : UInt8) (h : BS m S l bs) (hm : m ≤ S.n) (hb : bs.length + 1 ≤ 140737488355328) :
    ACalls prog 65 [.ptr l 0, .int .u8 c.toNat] S fun r S' => (∃ x, r = .ret x) ∧ BS m S' l (bs ++ [c]) ∧ Low m l S S' := by
  refine ACalls.wf fun hwf _ => acalls_of_vc low65 (by simp) ?_
  obtain ⟨hml, hlS, ⟨a, ha, hl, rfl⟩ | ⟨k, hk, hkS, hkl, hl, hrow, hne⟩⟩ := h
  · have hln := (hwf l _ hl).1
    simp -implicitDefEqProofs only [B65, vc_region, vc_quiet, vcD_nil, vcD_val, vcD_eff, vcD_guard, vcDOut, vcDEff, vcDGuard, saysAll, pendAll, pendNext, addPend, Says, vc_bad, vc_seq, vc_ret, vc_skip, vc_cond, vcCond, vc_block, vc_exit, vcGrps_nil, vcGrps_cons, vcGrps_guard, vcGuard, vcOps_nil, vcOps_cons, vcOut, KCall_ret, KCall_pan, skipF_nil, skipF_cons, Qseq_normal, Qseq_ret, Qseq_exit, Qseq_pan, Qblk_normal, Qblk_exit, Qblk_ret, Qblk_pan, Qpan_eq, Qcut_normal, Qcut_exit, Qcut_ret, Qcut_pan, Qloop_normal, Qloop_exit, Qloop_ret, Qloop_pan,
    stepOp, ev, upd_apply, putF, cellsOf, deref, faddrV, mk, abin, abinI, abinS, ibits, aeqb, aun, fldV, idxOf, elems, isPtr, putRef, splice, fillA, rowsA, minV, peqV, elemsA, rowBytes, strOf, Store.get_push, Store.get_set, Store.n_push, Store.n_set,
    Option.map_some, Option.map_none, reduceIte, Nat.reduceEqDiff, Nat.reduceAdd, Nat.reduceLeDiff, Nat.reduceLT, Nat.zero_add, Nat.add_zero, Nat.add_assoc, Nat.add_left_cancel_iff, Nat.left_eq_add, Nat.add_eq_left, Nat.lt_irrefl, Nat.le_refl,
    List.drop_zero, List.drop_succ_cons, List.take_succ_cons, List.take_zero, List.headD_cons, List.length_cons, List.length_nil, List.getElem?_cons_zero, List.getElem?_cons_succ, List.set_cons_zero, List.set_cons_succ, List.map_cons, List.map_nil,
    Bool.not_true, Bool.not_false, Bool.false_eq_true, Bool.true_eq_false, Bool.not_eq_true', Bool.not_eq_false', eq_self, false_imp_iff, true_imp_iff, and_true, true_and, and_false, false_and, or_true, true_or, initFr, fr0_at, Qend, resL, resV1, pack,
    decide_eq_true_eq, decide_eq_false_iff_not, Int.toNat_natCast, Option.some.injEq, exists_eq_left', vcCond_T, vcCond_F]
    refine (c71 S l _ _ hl ha).mono ?_
    rintro r S' ⟨rfl, rfl⟩
    have hne : l ≠ S.n := by omega
    simp -implicitDefEqProofs only [hne, vc_region, vc_quiet, vcD_nil, vcD_val, vcD_eff, vcD_guard, vcDOut, vcDEff, vcDGuard, saysAll, pendAll, pendNext, addPend, Says, vc_bad, vc_seq, vc_ret, vc_skip, vc_cond, vcCond, vc_block, vc_exit, vcGrps_nil, vcGrps_cons, vcGrps_guard, vcGuard, vcOps_nil, vcOps_cons, vcOut, KCall_ret, KCall_pan, skipF_nil, skipF_cons, Qseq_normal, Qseq_ret, Qseq_exit, Qseq_pan, Qblk_normal, Qblk_exit, Qblk_ret, Qblk_pan, Qpan_eq, Qcut_normal, Qcut_exit, Qcut_ret, Qcut_pan, Qloop_normal, Qloop_exit, Qloop_ret, Qloop_pan,
    stepOp, ev, upd_apply, putF, cellsOf, deref, faddrV, mk, abin, abinI, abinS, ibits, aeqb, aun, fldV, idxOf, elems, isPtr, putRef, splice, fillA, rowsA, minV, peqV, elemsA, rowBytes, strOf, Store.get_push, Store.get_set, Store.n_push, Store.n_set,
    Option.map_some, Option.map_none, reduceIte, Nat.reduceEqDiff, Nat.reduceAdd, Nat.reduceLeDiff, Nat.reduceLT, Nat.zero_add, Nat.add_zero, Nat.add_assoc, Nat.add_left_cancel_iff, Nat.left_eq_add, Nat.add_eq_left, Nat.lt_irrefl, Nat.le_refl,
    List.drop_zero, List.drop_succ_cons, List.take_succ_cons, List.take_zero, List.headD_cons, List.length_cons, List.length_nil, List.getElem?_cons_zero, List.getElem?_cons_succ, List.set_cons_zero, List.set_cons_succ, List.map_cons, List.map_nil,
    Bool.not_true, Bool.not_false, Bool.false_eq_true, Bool.true_eq_false, Bool.not_eq_true', Bool.not_eq_false', eq_self, false_imp_iff, true_imp_iff, and_true, true_and, and_false, false_and, or_true, true_or, initFr, fr0_at, Qend, resL, resV1, pack,
    decide_eq_true_eq, decide_eq_false_iff_not, Int.toNat_natCast, Option.some.injEq, exists_eq_left', vcCond_T, vcCond_F]
    exact ⟨by omega, ⟨_, rfl⟩, bs_new (bs := [c]) (o := .box 0 []) hm hml hln rfl (by simp) rfl, low_new hwf hlS hm⟩
  · have hln := (hwf l _ hl).1
    simp -implicitDefEqProofs only [B65, vc_region, vc_quiet, vcD_nil, vcD_val, vcD_eff, vcD_guard, vcDOut, vcDEff, vcDGuard, saysAll, pendAll, pendNext, addPend, Says, vc_bad, vc_seq, vc_ret, vc_skip, vc_cond, vcCond, vc_block, vc_exit, vcGrps_nil, vcGrps_cons, vcGrps_guard, vcGuard, vcOps_nil, vcOps_cons, vcOut, KCall_ret, KCall_pan, skipF_nil, skipF_cons, Qseq_normal, Qseq_ret, Qseq_exit, Qseq_pan, Qblk_normal, Qblk_exit, Qblk_ret, Qblk_pan, Qpan_eq, Qcut_normal, Qcut_exit, Qcut_ret, Qcut_pan, Qloop_normal, Qloop_exit, Qloop_ret, Qloop_pan,
    stepOp, ev, upd_apply, putF, cellsOf, deref, faddrV, mk, abin, abinI, abinS, ibits, aeqb, aun, fldV, idxOf, elems, isPtr, putRef, splice, fillA, rowsA, minV, peqV, elemsA, rowBytes, strOf, Store.get_push, Store.get_set, Store.n_push, Store.n_set,
    Option.map_some, Option.map_none, reduceIte, Nat.reduceEqDiff, Nat.reduceAdd, Nat.reduceLeDiff, Nat.reduceLT, Nat.zero_add, Nat.add_zero, Nat.add_assoc, Nat.add_left_cancel_iff, Nat.left_eq_add, Nat.add_eq_left, Nat.lt_irrefl, Nat.le_refl,
    List.drop_zero, List.drop_succ_cons, List.take_succ_cons, List.take_zero, List.headD_cons, List.length_cons, List.length_nil, List.getElem?_cons_zero, List.getElem?_cons_succ, List.set_cons_zero, List.set_cons_succ, List.map_cons, List.map_nil,
    Bool.not_true, Bool.not_false, Bool.false_eq_true, Bool.true_eq_false, Bool.not_eq_true', Bool.not_eq_false', eq_self, false_imp_iff, true_imp_iff, and_true, true_and, and_false, false_and, or_true, true_or, initFr, fr0_at, Qend, resL, resV1, pack,
    decide_eq_true_eq, decide_eq_false_iff_not, Int.toNat_natCast, Option.some.injEq, exists_eq_left', vcCond_T, vcCond_F]
    refine (c71 S l _ _ hl (.inr rfl)).mono ?_
    rintro r S' ⟨rfl, rfl⟩
    have hne : l ≠ S.n := by omega
    simp -implicitDefEqProofs only [hne, hkl, hkl.symm, hrow, byteRow_length, vc_region, vc_quiet, vcD_nil, vcD_val, vcD_eff, vcD_guard, vcDOut, vcDEff, vcDGuard, saysAll, pendAll, pendNext, addPend, Says, vc_bad, vc_seq, vc_ret, vc_skip, vc_cond, vcCond, vc_block, vc_exit, vcGrps_nil, vcGrps_cons, vcGrps_guard, vcGuard, vcOps_nil, vcOps_cons, vcOut, KCall_ret, KCall_pan, skipF_nil, skipF_cons, Qseq_normal, Qseq_ret, Qseq_exit, Qseq_pan, Qblk_normal, Qblk_exit, Qblk_ret, Qblk_pan, Qpan_eq, Qcut_normal, Qcut_exit, Qcut_ret, Qcut_pan, Qloop_normal, Qloop_exit, Qloop_ret, Qloop_pan,
    stepOp, ev, upd_apply, putF, cellsOf, deref, faddrV, mk, abin, abinI, abinS, ibits, aeqb, aun, fldV, idxOf, elems, isPtr, putRef, splice, fillA, rowsA, minV, peqV, elemsA, rowBytes, strOf, Store.get_push, Store.get_set, Store.n_push, Store.n_set,
    Option.map_some, Option.map_none, reduceIte, Nat.reduceEqDiff, Nat.reduceAdd, Nat.reduceLeDiff, Nat.reduceLT, Nat.zero_add, Nat.add_zero, Nat.add_assoc, Nat.add_left_cancel_iff, Nat.left_eq_add, Nat.add_eq_left, Nat.lt_irrefl, Nat.le_refl,
    List.drop_zero, List.drop_succ_cons, List.take_succ_cons, List.take_zero, List.headD_cons, List.length_cons, List.length_nil, List.getElem?_cons_zero, List.getElem?_cons_succ, List.set_cons_zero, List.set_cons_succ, List.map_cons, List.map_nil,
    Bool.not_true, Bool.not_false, Bool.false_eq_true, Bool.true_eq_false, Bool.not_eq_true', Bool.not_eq_false', eq_self, false_imp_iff, true_imp_iff, and_true, true_and, and_false, false_and, or_true, true_or, initFr, fr0_at, Qend, resL, resV1, pack,
    decide_eq_true_eq, decide_eq_false_iff_not, Int.toNat_natCast, Option.some.injEq, exists_eq_left', vcCond_T, vcCond_F]
    refine ⟨by omega, ⟨_, rfl⟩, ?_, low_own hwf hlS hm hk hrow⟩
    have e : byteRow bs ++ [[AV.int IntKind.u8 ↑c.toNat]] = byteRow (bs ++ [c]) := by rw [byteRow_append]; rfl
    rw [e]
    exact bs_new (o := .box 0 []) hm hml hln (by simp) (by simp) rfl

theorem c66 (m : Nat) (S : Store) (l : Nat) (bs s : List UInt8) (h : BS m S l bs) (hm : m ≤ S.n) (hb : bs.length + s.length ≤ 140737488355328) :
    ACalls prog 66 [.ptr l 0, .str s] S fun r S' => (∃ x, r = .ret x) ∧ BS m S' l (bs ++ s) ∧ Low m l S S' := by
  refine ACalls.wf fun hwf _ => acalls_of_vc low66 (by simp) ?_
  obtain ⟨hml, hlS, ⟨a, ha, hl, rfl⟩ | ⟨k, hk, hkS, hkl, hl, hrow, hne⟩⟩ := h
  · have hln := (hwf l _ hl).1
    have hne : l ≠ S.n := by omega
    cases s with
    | nil =>
      simp -implicitDefEqProofs only [B66, vc_region, vc_quiet, vcD_nil, vcD_val, vcD_eff, vcD_guard, vcDOut, vcDEff, vcDGuard, saysAll, pendAll, pendNext, addPend, Says, vc_bad, vc_seq, vc_ret, vc_skip, vc_cond, vcCond, vc_block, vc_exit, vcGrps_nil, vcGrps_cons, vcGrps_guard, vcGuard, vcOps_nil, vcOps_cons, vcOut, KCall_ret, KCall_pan, skipF_nil, skipF_cons, Qseq_normal, Qseq_ret, Qseq_exit, Qseq_pan, Qblk_normal, Qblk_exit, Qblk_ret, Qblk_pan, Qpan_eq, Qcut_normal, Qcut_exit, Qcut_ret, Qcut_pan, Qloop_normal, Qloop_exit, Qloop_ret, Qloop_pan,
    stepOp, ev, upd_apply, putF, cellsOf, deref, faddrV, mk, abin, abinI, abinS, ibits, aeqb, aun, fldV, idxOf, elems, isPtr, putRef, splice, fillA, rowsA, minV, peqV, elemsA, rowBytes, strOf, Store.get_push, Store.get_set, Store.n_push, Store.n_set,
    Option.map_some, Option.map_none, reduceIte, Nat.reduceEqDiff, Nat.reduceAdd, Nat.reduceLeDiff, Nat.reduceLT, Nat.zero_add, Nat.add_zero, Nat.add_assoc, Nat.add_left_cancel_iff, Nat.left_eq_add, Nat.add_eq_left, Nat.lt_irrefl, Nat.le_refl,
    List.drop_zero, List.drop_succ_cons, List.take_succ_cons, List.take_zero, List.headD_cons, List.length_cons, List.length_nil, List.getElem?_cons_zero, List.getElem?_cons_succ, List.set_cons_zero, List.set_cons_succ, List.map_cons, List.map_nil,
    Bool.not_true, Bool.not_false, Bool.false_eq_true, Bool.true_eq_false, Bool.not_eq_true', Bool.not_eq_false', eq_self, false_imp_iff, true_imp_iff, and_true, true_and, and_false, false_and, or_true, true_or, initFr, fr0_at, Qend, resL, resV1, pack,
    decide_eq_true_eq, decide_eq_false_iff_not, Int.toNat_natCast, Option.some.injEq, exists_eq_left', vcCond_T, vcCond_F]
      refine (c71 S l _ _ hl ha).mono ?_
      rintro r S' ⟨rfl, rfl⟩
      simp -implicitDefEqProofs only [hne, vc_region, vc_quiet, vcD_nil, vcD_val, vcD_eff, vcD_guard, vcDOut, vcDEff, vcDGuard, saysAll, pendAll, pendNext, addPend, Says, vc_bad, vc_seq, vc_ret, vc_skip, vc_cond, vcCond, vc_block, vc_exit, vcGrps_nil, vcGrps_cons, vcGrps_guard, vcGuard, vcOps_nil, vcOps_cons, vcOut, KCall_ret, KCall_pan, skipF_nil, skipF_cons, Qseq_normal, Qseq_ret, Qseq_exit, Qseq_pan, Qblk_normal, Qblk_exit, Qblk_ret, Qblk_pan, Qpan_eq, Qcut_normal, Qcut_exit, Qcut_ret, Qcut_pan, Qloop_normal, Qloop_exit, Qloop_ret, Qloop_pan,
    stepOp, ev, upd_apply, putF, cellsOf, deref, faddrV, mk, abin, abinI, abinS, ibits, aeqb, aun, fldV, idxOf, elems, isPtr, putRef, splice, fillA, rowsA, minV, peqV, elemsA, rowBytes, strOf, Store.get_push, Store.get_set, Store.n_push, Store.n_set,
    Option.map_some, Option.map_none, reduceIte, Nat.reduceEqDiff, Nat.reduceAdd, Nat.reduceLeDiff, Nat.reduceLT, Nat.zero_add, Nat.add_zero, Nat.add_assoc, Nat.add_left_cancel_iff, Nat.left_eq_add, Nat.add_eq_left, Nat.lt_irrefl, Nat.le_refl,
    List.drop_zero, List.drop_succ_cons, List.take_succ_cons, List.take_zero, List.headD_cons, List.length_cons, List.length_nil, List.getElem?_cons_zero, List.getElem?_cons_succ, List.set_cons_zero, List.set_cons_succ, List.map_cons, List.map_nil,
    Bool.not_true, Bool.not_false, Bool.false_eq_true, Bool.true_eq_false, Bool.not_eq_true', Bool.not_eq_false', eq_self, false_imp_iff, true_imp_iff, and_true, true_and, and_false, false_and, or_true, true_or, initFr, fr0_at, Qend, resL, resV1, pack,
    decide_eq_true_eq, decide_eq_false_iff_not, Int.toNat_natCast, Option.some.injEq, exists_eq_left', vcCond_T, vcCond_F]
      refine fun _ => ⟨⟨_, rfl⟩, ⟨hml, hlS, .inl ⟨_, .inr rfl, by rw [Store.get_set_same], rfl⟩⟩, ((Low.refl m l S).setl _ hlS).setl _ hlS⟩
    | cons b s =>
      simp -implicitDefEqProofs only [B66, vc_region, vc_quiet, vcD_nil, vcD_val, vcD_eff, vcD_guard, vcDOut, vcDEff, vcDGuard, saysAll, pendAll, pendNext, addPend, Says, vc_bad, vc_seq, vc_ret, vc_skip, vc_cond, vcCond, vc_block, vc_exit, vcGrps_nil, vcGrps_cons, vcGrps_guard, vcGuard, vcOps_nil, vcOps_cons, vcOut, KCall_ret, KCall_pan, skipF_nil, skipF_cons, Qseq_normal, Qseq_ret, Qseq_exit, Qseq_pan, Qblk_normal, Qblk_exit, Qblk_ret, Qblk_pan, Qpan_eq, Qcut_normal, Qcut_exit, Qcut_ret, Qcut_pan, Qloop_normal, Qloop_exit, Qloop_ret, Qloop_pan,
    stepOp, ev, upd_apply, putF, cellsOf, deref, faddrV, mk, abin, abinI, abinS, ibits, aeqb, aun, fldV, idxOf, elems, isPtr, putRef, splice, fillA, rowsA, minV, peqV, elemsA, rowBytes, strOf, Store.get_push, Store.get_set, Store.n_push, Store.n_set,
    Option.map_some, Option.map_none, reduceIte, Nat.reduceEqDiff, Nat.reduceAdd, Nat.reduceLeDiff, Nat.reduceLT, Nat.zero_add, Nat.add_zero, Nat.add_assoc, Nat.add_left_cancel_iff, Nat.left_eq_add, Nat.add_eq_left, Nat.lt_irrefl, Nat.le_refl,
    List.drop_zero, List.drop_succ_cons, List.take_succ_cons, List.take_zero, List.headD_cons, List.length_cons, List.length_nil, List.getElem?_cons_zero, List.getElem?_cons_succ, List.set_cons_zero, List.set_cons_succ, List.map_cons, List.map_nil,
    Bool.not_true, Bool.not_false, Bool.false_eq_true, Bool.true_eq_false, Bool.not_eq_true', Bool.not_eq_false', eq_self, false_imp_iff, true_imp_iff, and_true, true_and, and_false, false_and, or_true, true_or, initFr, fr0_at, Qend, resL, resV1, pack,
    decide_eq_true_eq, decide_eq_false_iff_not, Int.toNat_natCast, Option.some.injEq, exists_eq_left', vcCond_T, vcCond_F]
      refine (c71 S l _ _ hl ha).mono ?_
      rintro r S' ⟨rfl, rfl⟩
      simp -implicitDefEqProofs only [hne, List.length_map, vc_region, vc_quiet, vcD_nil, vcD_val, vcD_eff, vcD_guard, vcDOut, vcDEff, vcDGuard, saysAll, pendAll, pendNext, addPend, Says, vc_bad, vc_seq, vc_ret, vc_skip, vc_cond, vcCond, vc_block, vc_exit, vcGrps_nil, vcGrps_cons, vcGrps_guard, vcGuard, vcOps_nil, vcOps_cons, vcOut, KCall_ret, KCall_pan, skipF_nil, skipF_cons, Qseq_normal, Qseq_ret, Qseq_exit, Qseq_pan, Qblk_normal, Qblk_exit, Qblk_ret, Qblk_pan, Qpan_eq, Qcut_normal, Qcut_exit, Qcut_ret, Qcut_pan, Qloop_normal, Qloop_exit, Qloop_ret, Qloop_pan,
    stepOp, ev, upd_apply, putF, cellsOf, deref, faddrV, mk, abin, abinI, abinS, ibits, aeqb, aun, fldV, idxOf, elems, isPtr, putRef, splice, fillA, rowsA, minV, peqV, elemsA, rowBytes, strOf, Store.get_push, Store.get_set, Store.n_push, Store.n_set,
    Option.map_some, Option.map_none, reduceIte, Nat.reduceEqDiff, Nat.reduceAdd, Nat.reduceLeDiff, Nat.reduceLT, Nat.zero_add, Nat.add_zero, Nat.add_assoc, Nat.add_left_cancel_iff, Nat.left_eq_add, Nat.add_eq_left, Nat.lt_irrefl, Nat.le_refl,
    List.drop_zero, List.drop_succ_cons, List.take_succ_cons, List.take_zero, List.headD_cons, List.length_cons, List.length_nil, List.getElem?_cons_zero, List.getElem?_cons_succ, List.set_cons_zero, List.set_cons_succ, List.map_cons, List.map_nil,
    Bool.not_true, Bool.not_false, Bool.false_eq_true, Bool.true_eq_false, Bool.not_eq_true', Bool.not_eq_false', eq_self, false_imp_iff, true_imp_iff, and_true, true_and, and_false, false_and, or_true, true_or, initFr, fr0_at, Qend, resL, resV1, pack,
    decide_eq_true_eq, decide_eq_false_iff_not, Int.toNat_natCast, Option.some.injEq, exists_eq_left', vcCond_T, vcCond_F]
      simp only [List.length_cons, List.length_nil] at hb
      refine ⟨by omega, fun _ => ⟨⟨_, rfl⟩, ?_, low_new hwf hlS hm⟩⟩
      exact bs_new (bs := b :: s) (o := .box 0 []) hm hml hln (by simp) (by simp) rfl
  · have hln := (hwf l _ hl).1
    simp -implicitDefEqProofs only [B66, vc_region, vc_quiet, vcD_nil, vcD_val, vcD_eff, vcD_guard, vcDOut, vcDEff, vcDGuard, saysAll, pendAll, pendNext, addPend, Says, vc_bad, vc_seq, vc_ret, vc_skip, vc_cond, vcCond, vc_block, vc_exit, vcGrps_nil, vcGrps_cons, vcGrps_guard, vcGuard, vcOps_nil, vcOps_cons, vcOut, KCall_ret, KCall_pan, skipF_nil, skipF_cons, Qseq_normal, Qseq_ret, Qseq_exit, Qseq_pan, Qblk_normal, Qblk_exit, Qblk_ret, Qblk_pan, Qpan_eq, Qcut_normal, Qcut_exit, Qcut_ret, Qcut_pan, Qloop_normal, Qloop_exit, Qloop_ret, Qloop_pan,
    stepOp, ev, upd_apply, putF, cellsOf, deref, faddrV, mk, abin, abinI, abinS, ibits, aeqb, aun, fldV, idxOf, elems, isPtr, putRef, splice, fillA, rowsA, minV, peqV, elemsA, rowBytes, strOf, Store.get_push, Store.get_set, Store.n_push, Store.n_set,
    Option.map_some, Option.map_none, reduceIte, Nat.reduceEqDiff, Nat.reduceAdd, Nat.reduceLeDiff, Nat.reduceLT, Nat.zero_add, Nat.add_zero, Nat.add_assoc, Nat.add_left_cancel_iff, Nat.left_eq_add, Nat.add_eq_left, Nat.lt_irrefl, Nat.le_refl,
    List.drop_zero, List.drop_succ_cons, List.take_succ_cons, List.take_zero, List.headD_cons, List.length_cons, List.length_nil, List.getElem?_cons_zero, List.getElem?_cons_succ, List.set_cons_zero, List.set_cons_succ, List.map_cons, List.map_nil,
    Bool.not_true, Bool.not_false, Bool.false_eq_true, Bool.true_eq_false, Bool.not_eq_true', Bool.not_eq_false', eq_self, false_imp_iff, true_imp_iff, and_true, true_and, and_false, false_and, or_true, true_or, initFr, fr0_at, Qend, resL, resV1, pack,
    decide_eq_true_eq, decide_eq_false_iff_not, Int.toNat_natCast, Option.some.injEq, exists_eq_left', vcCond_T, vcCond_F]
    refine (c71 S l _ _ hl (.inr rfl)).mono ?_
    rintro r S' ⟨rfl, rfl⟩
    have hne : l ≠ S.n := by omega
    simp -implicitDefEqProofs only [hne, hkl, hkl.symm, hrow, byteRow_length, List.length_map, vc_region, vc_quiet, vcD_nil, vcD_val, vcD_eff, vcD_guard, vcDOut, vcDEff, vcDGuard, saysAll, pendAll, pendNext, addPend, Says, vc_bad, vc_seq, vc_ret, vc_skip, vc_cond, vcCond, vc_block, vc_exit, vcGrps_nil, vcGrps_cons, vcGrps_guard, vcGuard, vcOps_nil, vcOps_cons, vcOut, KCall_ret, KCall_pan, skipF_nil, skipF_cons, Qseq_normal, Qseq_ret, Qseq_exit, Qseq_pan, Qblk_normal, Qblk_exit, Qblk_ret, Qblk_pan, Qpan_eq, Qcut_normal, Qcut_exit, Qcut_ret, Qcut_pan, Qloop_normal, Qloop_exit, Qloop_ret, Qloop_pan,
    stepOp, ev, upd_apply, putF, cellsOf, deref, faddrV, mk, abin, abinI, abinS, ibits, aeqb, aun, fldV, idxOf, elems, isPtr, putRef, splice, fillA, rowsA, minV, peqV, elemsA, rowBytes, strOf, Store.get_push, Store.get_set, Store.n_push, Store.n_set,
    Option.map_some, Option.map_none, reduceIte, Nat.reduceEqDiff, Nat.reduceAdd, Nat.reduceLeDiff, Nat.reduceLT, Nat.zero_add, Nat.add_zero, Nat.add_assoc, Nat.add_left_cancel_iff, Nat.left_eq_add, Nat.add_eq_left, Nat.lt_irrefl, Nat.le_refl,
    List.drop_zero, List.drop_succ_cons, List.take_succ_cons, List.take_zero, List.headD_cons, List.length_cons, List.length_nil, List.getElem?_cons_zero, List.getElem?_cons_succ, List.set_cons_zero, List.set_cons_succ, List.map_cons, List.map_nil,
    Bool.not_true, Bool.not_false, Bool.false_eq_true, Bool.true_eq_false, Bool.not_eq_true', Bool.not_eq_false', eq_self, false_imp_iff, true_imp_iff, and_true, true_and, and_false, false_and, or_true, true_or, initFr, fr0_at, Qend, resL, resV1, pack,
    decide_eq_true_eq, decide_eq_false_iff_not, Int.toNat_natCast, Option.some.injEq, exists_eq_left', vcCond_T, vcCond_F]
    refine ⟨by omega, fun _ => ⟨⟨_, rfl⟩, ?_, low_own hwf hlS hm hk hrow⟩⟩
    have e : byteRow bs ++ List.map (fun b => [AV.int IntKind.u8 ↑b.toNat]) s = byteRow (bs ++ s) := by rw [byteRow_append]; rfl
    rw [e]
    exact bs_new (o := .box 0 []) hm hml hln (by simp) (by simp [*]) rfl

theorem rowBytes_byteRow : ∀ (l : List UInt8), rowBytes (byteRow l) = some l
  | [] => rfl
  | b :: l => by
    have := rowBytes_byteRow l
    simp only [byteRow, List.map_cons, rowBytes] at this ⊢
    have h : (0 : Int) ≤ b.toNat ∧ (b.toNat : Int) < 256 := ⟨by omega, by have := b.toNat_lt; omega⟩
    rw [if_pos h, this]
    simp

theorem c48 (m : Nat) (S : Store) (l : Nat) (bs : List UInt8) (h : BS m S l bs) (hne : bs ≠ []) :
    ACalls prog 48 [.ptr l 0] S fun r S' => r = .ret (.str bs) ∧ Low m l S S' := by
  refine ACalls.wf fun hwf _ => acalls_of_vc low48 (by simp) ?_
  obtain ⟨hml, hlS, ⟨a, ha, hl, rfl⟩ | ⟨k, hk, hkS, hkl, hl, hrow, hne⟩⟩ := h
  · exact absurd rfl hne
  · have hpos : 0 < bs.length := List.length_pos_iff.2 hne
    have hz : ¬ ((bs.length : Int) = 0) := by omega
    have h0 : (0 : Int) ≤ bs.length := by omega
    have ht : (byteRow bs).take bs.length = byteRow bs := by rw [← byteRow_length bs]; exact List.take_length ..
    simp -implicitDefEqProofs only [B48, hl, hrow, hkl, hkl.symm, hpos, hz, h0, ht, rowBytes_byteRow, byteRow_length, vc_region, vc_quiet, vcD_nil, vcD_val, vcD_eff, vcD_guard, vcDOut, vcDEff, vcDGuard, saysAll, pendAll, pendNext, addPend, Says, vc_bad, vc_seq, vc_ret, vc_skip, vc_cond, vcCond, vc_block, vc_exit, vcGrps_nil, vcGrps_cons, vcGrps_guard, vcGuard, vcOps_nil, vcOps_cons, vcOut, KCall_ret, KCall_pan, skipF_nil, skipF_cons, Qseq_normal, Qseq_ret, Qseq_exit, Qseq_pan, Qblk_normal, Qblk_exit, Qblk_ret, Qblk_pan, Qpan_eq, Qcut_normal, Qcut_exit, Qcut_ret, Qcut_pan, Qloop_normal, Qloop_exit, Qloop_ret, Qloop_pan,
    stepOp, ev, upd_apply, putF, cellsOf, deref, faddrV, mk, abin, abinI, abinS, ibits, aeqb, aun, fldV, idxOf, elems, isPtr, putRef, splice, fillA, rowsA, minV, peqV, elemsA, rowBytes, strOf, Store.get_push, Store.get_set, Store.n_push, Store.n_set,
    Option.map_some, Option.map_none, reduceIte, Nat.reduceEqDiff, Nat.reduceAdd, Nat.reduceLeDiff, Nat.reduceLT, Nat.zero_add, Nat.add_zero, Nat.add_assoc, Nat.add_left_cancel_iff, Nat.left_eq_add, Nat.add_eq_left, Nat.lt_irrefl, Nat.le_refl,
    List.drop_zero, List.drop_succ_cons, List.take_succ_cons, List.take_zero, List.headD_cons, List.length_cons, List.length_nil, List.getElem?_cons_zero, List.getElem?_cons_succ, List.set_cons_zero, List.set_cons_succ, List.map_cons, List.map_nil,
    Bool.not_true, Bool.not_false, Bool.false_eq_true, Bool.true_eq_false, Bool.not_eq_true', Bool.not_eq_false', eq_self, false_imp_iff, true_imp_iff, and_true, true_and, and_false, false_and, or_true, true_or, initFr, fr0_at, Qend, resL, resV1, pack,
    decide_eq_true_eq, decide_eq_false_iff_not, Int.toNat_natCast, Option.some.injEq, exists_eq_left', vcCond_T, vcCond_F]
    exact (Low.refl m l S).setk hk (fun _ _ h => by rw [hrow] at h; cases h)
end Go.Proofs.Ytmlllckecalaaaa.Eng

namespace Go.Proofs.Ytmlllckecalaaaa.Eng
open Go Go.Proofs.Try

theorem c72 (s : List UInt8) (hs : s.length ≤ 281474976710656) : Pure prog 72 [.str s] (.str s) := by
  refine Pure.of (fun _ _ => by simp only [nm]) fun S => acalls_of_vc low72 (by simp) ?_
  have hx := Ext.refl S
  by_cases h0 : s = []
  · subst h0
    simp -implicitDefEqProofs only [B72, vc_region, vc_quiet, vcD_nil, vcD_val, vcD_eff, vcD_guard, vcDOut, vcDEff, vcDGuard, saysAll, pendAll, pendNext, addPend, Says, vc_bad, vc_seq, vc_ret, vc_skip, vc_cond, vcCond, vc_block, vc_exit, vcGrps_nil, vcGrps_cons, vcGrps_guard, vcGuard, vcOps_nil, vcOps_cons, vcOut, KCall_ret, KCall_pan, skipF_nil, skipF_cons, Qseq_normal, Qseq_ret, Qseq_exit, Qseq_pan, Qblk_normal, Qblk_exit, Qblk_ret, Qblk_pan, Qpan_eq, Qcut_normal, Qcut_exit, Qcut_ret, Qcut_pan, Qloop_normal, Qloop_exit, Qloop_ret, Qloop_pan,
    stepOp, ev, upd_apply, putF, cellsOf, deref, faddrV, mk, abin, abinI, abinS, ibits, aeqb, aun, fldV, idxOf, elems, isPtr, putRef, splice, fillA, rowsA, minV, peqV, elemsA, rowBytes, strOf, Store.get_push, Store.get_set, Store.n_push, Store.n_set,
    Option.map_some, Option.map_none, reduceIte, Nat.reduceEqDiff, Nat.reduceAdd, Nat.reduceLeDiff, Nat.reduceLT, Nat.zero_add, Nat.add_zero, Nat.add_assoc, Nat.add_left_cancel_iff, Nat.left_eq_add, Nat.add_eq_left, Nat.lt_irrefl, Nat.le_refl,
    List.drop_zero, List.drop_succ_cons, List.take_succ_cons, List.take_zero, List.headD_cons, List.length_cons, List.length_nil, List.getElem?_cons_zero, List.getElem?_cons_succ, List.set_cons_zero, List.set_cons_succ, List.map_cons, List.map_nil,
    Bool.not_true, Bool.not_false, Bool.false_eq_true, Bool.true_eq_false, Bool.not_eq_true', Bool.not_eq_false', eq_self, false_imp_iff, true_imp_iff, and_true, true_and, and_false, false_and, or_true, true_or, initFr, fr0_at, Qend, resL, resV1, pack,
    decide_eq_true_eq, decide_eq_false_iff_not, Int.toNat_natCast, Option.some.injEq, exists_eq_left', vcCond_T, vcCond_F]
    simp [hx]
  · have hpos : 0 < s.length := List.length_pos_iff.2 h0
    have hz : ¬ ((s.length : Int) = 0) := by omega
    have hle : (0 : Int) ≤ s.length := by omega
    have hT : Int.toNat 0 = 0 := rfl
    have ht : (byteRow s).take s.length = byteRow s := by rw [← byteRow_length s]; exact List.take_length ..
    simp -implicitDefEqProofs only [B72, hz, hle, hT, hpos, ht, rowBytes_byteRow, byteRow_length, List.length_replicate, lenMax, Int.le_refl, decide_false, decide_true, vc_region, vc_quiet, vcD_nil, vcD_val, vcD_eff, vcD_guard, vcDOut, vcDEff, vcDGuard, saysAll, pendAll, pendNext, addPend, Says, vc_bad, vc_seq, vc_ret, vc_skip, vc_cond, vcCond, vc_block, vc_exit, vcGrps_nil, vcGrps_cons, vcGrps_guard, vcGuard, vcOps_nil, vcOps_cons, vcOut, KCall_ret, KCall_pan, skipF_nil, skipF_cons, Qseq_normal, Qseq_ret, Qseq_exit, Qseq_pan, Qblk_normal, Qblk_exit, Qblk_ret, Qblk_pan, Qpan_eq, Qcut_normal, Qcut_exit, Qcut_ret, Qcut_pan, Qloop_normal, Qloop_exit, Qloop_ret, Qloop_pan,
    stepOp, ev, upd_apply, putF, cellsOf, deref, faddrV, mk, abin, abinI, abinS, ibits, aeqb, aun, fldV, idxOf, elems, isPtr, putRef, splice, fillA, rowsA, minV, peqV, elemsA, rowBytes, strOf, Store.get_push, Store.get_set, Store.n_push, Store.n_set,
    Option.map_some, Option.map_none, reduceIte, Nat.reduceEqDiff, Nat.reduceAdd, Nat.reduceLeDiff, Nat.reduceLT, Nat.zero_add, Nat.add_zero, Nat.add_assoc, Nat.add_left_cancel_iff, Nat.left_eq_add, Nat.add_eq_left, Nat.lt_irrefl, Nat.le_refl,
    List.drop_zero, List.drop_succ_cons, List.take_succ_cons, List.take_zero, List.headD_cons, List.length_cons, List.length_nil, List.getElem?_cons_zero, List.getElem?_cons_succ, List.set_cons_zero, List.set_cons_succ, List.map_cons, List.map_nil,
    Bool.not_true, Bool.not_false, Bool.false_eq_true, Bool.true_eq_false, Bool.not_eq_true', Bool.not_eq_false', eq_self, false_imp_iff, true_imp_iff, and_true, true_and, and_false, false_and, or_true, true_or, initFr, fr0_at, Qend, resL, resV1, pack,
    decide_eq_true_eq, decide_eq_false_iff_not, Int.toNat_natCast, Option.some.injEq, exists_eq_left', vcCond_T, vcCond_F]
    refine fun _ _ => ⟨by omega, fun _ => ?_⟩
    exact ((hx.push _).set _ _ (Nat.le_refl _)).set _ _ (Nat.le_refl _)
theorem c69 (s : List UInt8) (hs : s.length ≤ 281474976710656) : Pure prog 69 [.str s] (.str s) := by
  refine Pure.of (fun _ _ => by simp only [nm]) fun S => acalls_of_vc low69 (by simp) ?_
  simp -implicitDefEqProofs only [B69, vc_region, vc_quiet, vcD_nil, vcD_val, vcD_eff, vcD_guard, vcDOut, vcDEff, vcDGuard, saysAll, pendAll, pendNext, addPend, Says, vc_bad, vc_seq, vc_ret, vc_skip, vc_cond, vcCond, vc_block, vc_exit, vcGrps_nil, vcGrps_cons, vcGrps_guard, vcGuard, vcOps_nil, vcOps_cons, vcOut, KCall_ret, KCall_pan, skipF_nil, skipF_cons, Qseq_normal, Qseq_ret, Qseq_exit, Qseq_pan, Qblk_normal, Qblk_exit, Qblk_ret, Qblk_pan, Qpan_eq, Qcut_normal, Qcut_exit, Qcut_ret, Qcut_pan, Qloop_normal, Qloop_exit, Qloop_ret, Qloop_pan,
    stepOp, ev, upd_apply, putF, cellsOf, deref, faddrV, mk, abin, abinI, abinS, ibits, aeqb, aun, fldV, idxOf, elems, isPtr, putRef, splice, fillA, rowsA, minV, peqV, elemsA, rowBytes, strOf, Store.get_push, Store.get_set, Store.n_push, Store.n_set,
    Option.map_some, Option.map_none, reduceIte, Nat.reduceEqDiff, Nat.reduceAdd, Nat.reduceLeDiff, Nat.reduceLT, Nat.zero_add, Nat.add_zero, Nat.add_assoc, Nat.add_left_cancel_iff, Nat.left_eq_add, Nat.add_eq_left, Nat.lt_irrefl, Nat.le_refl,
    List.drop_zero, List.drop_succ_cons, List.take_succ_cons, List.take_zero, List.headD_cons, List.length_cons, List.length_nil, List.getElem?_cons_zero, List.getElem?_cons_succ, List.set_cons_zero, List.set_cons_succ, List.map_cons, List.map_nil,
    Bool.not_true, Bool.not_false, Bool.false_eq_true, Bool.true_eq_false, Bool.not_eq_true', Bool.not_eq_false', eq_self, false_imp_iff, true_imp_iff, and_true, true_and, and_false, false_and, or_true, true_or, initFr, fr0_at, Qend, resL, resV1, pack,
    decide_eq_true_eq, decide_eq_false_iff_not, Int.toNat_natCast, Option.some.injEq, exists_eq_left', vcCond_T, vcCond_F]
  refine (c72 s hs).use ?_
  simp -implicitDefEqProofs only [vc_region, vc_quiet, vcD_nil, vcD_val, vcD_eff, vcD_guard, vcDOut, vcDEff, vcDGuard, saysAll, pendAll, pendNext, addPend, Says, vc_bad, vc_seq, vc_ret, vc_skip, vc_cond, vcCond, vc_block, vc_exit, vcGrps_nil, vcGrps_cons, vcGrps_guard, vcGuard, vcOps_nil, vcOps_cons, vcOut, KCall_ret, KCall_pan, skipF_nil, skipF_cons, Qseq_normal, Qseq_ret, Qseq_exit, Qseq_pan, Qblk_normal, Qblk_exit, Qblk_ret, Qblk_pan, Qpan_eq, Qcut_normal, Qcut_exit, Qcut_ret, Qcut_pan, Qloop_normal, Qloop_exit, Qloop_ret, Qloop_pan,
    stepOp, ev, upd_apply, putF, cellsOf, deref, faddrV, mk, abin, abinI, abinS, ibits, aeqb, aun, fldV, idxOf, elems, isPtr, putRef, splice, fillA, rowsA, minV, peqV, elemsA, rowBytes, strOf, Store.get_push, Store.get_set, Store.n_push, Store.n_set,
    Option.map_some, Option.map_none, reduceIte, Nat.reduceEqDiff, Nat.reduceAdd, Nat.reduceLeDiff, Nat.reduceLT, Nat.zero_add, Nat.add_zero, Nat.add_assoc, Nat.add_left_cancel_iff, Nat.left_eq_add, Nat.add_eq_left, Nat.lt_irrefl, Nat.le_refl,
    List.drop_zero, List.drop_succ_cons, List.take_succ_cons, List.take_zero, List.headD_cons, List.length_cons, List.length_nil, List.getElem?_cons_zero, List.getElem?_cons_succ, List.set_cons_zero, List.set_cons_succ, List.map_cons, List.map_nil,
    Bool.not_true, Bool.not_false, Bool.false_eq_true, Bool.true_eq_false, Bool.not_eq_true', Bool.not_eq_false', eq_self, false_imp_iff, true_imp_iff, and_true, true_and, and_false, false_and, or_true, true_or, initFr, fr0_at, Qend, resL, resV1, pack,
    decide_eq_true_eq, decide_eq_false_iff_not, Int.toNat_natCast, Option.some.injEq, exists_eq_left', vcCond_T, vcCond_F]
  exact Ext.refl S
end Go.Proofs.Ytmlllckecalaaaa.Eng

namespace Go.Proofs.Ytmlllckecalaaaa.Eng
open Go Go.Proofs.Try

/-- The low bytes of a number, the high one first. -/
def beN : Nat → Nat → List UInt8
  | 0, _ => []
  | i + 1, v => UInt8.ofNat (v / 2 ^ (8 * i)) :: beN i v
theorem beN_length : ∀ (i v : Nat), (beN i v).length = i
  | 0, _ => rfl
  | i + 1, v => by simp [beN, beN_length i v]

theorem fdiv_nat (a b : Nat) : (a : Int).fdiv (b : Int) = ((a / b : Nat) : Int) := by
  rw [Int.fdiv_eq_ediv_of_nonneg _ (by omega)]; rfl
theorem w8 (n : Nat) : IntKind.u8.wrap (n : Int) = ((UInt8.ofNat n).toNat : Int) := by
  rw [IntKind.wrap_u8]; simp

theorem rep_set (z : List AV) (b : UInt8) (k i : Nat) (rest : List UInt8) (hi : i < k) (hr : rest.length = i) (hz : z = [.int .u8 (0 : UInt8).toNat]) :
    (byteRow (List.replicate (k - i) 0 ++ rest)).set (k - 1 - i) [.int .u8 b.toNat] = byteRow (List.replicate (k - (i + 1)) 0 ++ b :: rest) := by
  obtain ⟨d, hd⟩ : ∃ d, k - i = d + 1 := ⟨k - i - 1, by omega⟩
  have e1 : k - 1 - i = d := by omega
  have e2 : k - (i + 1) = d := by omega
  rw [hd, e1, e2]
  simp only [byteRow, List.map_append, List.map_replicate, List.map_cons]
  rw [List.replicate_succ']
  simp [List.set_append]

theorem bytesOf_byteRow : ∀ (l : List UInt8), bytesOf (byteRow l) = some l
  | [] => rfl
  | b :: l => by
    have := bytesOf_byteRow l
    simp only [byteRow, List.map_cons, bytesOf] at this ⊢
    rw [this]; simp

theorem c70 (v k : Nat) (h1 : 1 ≤ k) (h7 : k ≤ 7) (hv : v < 2 ^ (8 * k)) : Pure prog 70 [.int .i64 v, .int .i64 k] (.tup [.str (beN k v), .int .i64 0]) := by
  refine Pure.of (fun _ _ => by simp only [nm, nmL, and_self]) fun S => acalls_of_vc low70 (by simp) ?_
  have hx := Ext.refl S
  have h1' : ¬ ((k : Int) < 1) := by omega
  have h7' : ¬ ((k : Int) > 7) := by omega
  have hv' : ¬ ((v : Int) < 0) := by omega
  have hw : IntKind.i64.wrap (8 * (k : Int)) = 8 * k := w64 _ (by omega) (by omega)
  have hnn : ¬ (8 * (k : Int) < 0) := by omega
  have hsh : (v : Int).fdiv (2 ^ min (8 * (k : Int)).toNat IntKind.i64.bits) = 0 := by
    have e : min (8 * (k : Int)).toNat IntKind.i64.bits = 8 * k := by
      have : IntKind.i64.bits = 64 := rfl
      rw [this]; omega
    rw [e, show ((2 : Int) ^ (8 * k)) = ((2 ^ (8 * k) : Nat) : Int) by push_cast; rfl, fdiv_nat, Nat.div_eq_of_lt hv]; rfl
  have hk0 : (0 : Int) ≤ k := by omega
  simp -implicitDefEqProofs only [B70, ashift, h1', h7', hv', hw, hnn, hsh, List.length_replicate, List.take_replicate, decide_false, decide_true, ne_eq, not_true, vc_region, vc_quiet, vcD_nil, vcD_val, vcD_eff, vcD_guard, vcDOut, vcDEff, vcDGuard, saysAll, pendAll, pendNext, addPend, Says, vc_bad, vc_seq, vc_ret, vc_skip, vc_cond, vcCond, vc_block, vc_exit, vcGrps_nil, vcGrps_cons, vcGrps_guard, vcGuard, vcOps_nil, vcOps_cons, vcOut, KCall_ret, KCall_pan, skipF_nil, skipF_cons, Qseq_normal, Qseq_ret, Qseq_exit, Qseq_pan, Qblk_normal, Qblk_exit, Qblk_ret, Qblk_pan, Qpan_eq, Qcut_normal, Qcut_exit, Qcut_ret, Qcut_pan, Qloop_normal, Qloop_exit, Qloop_ret, Qloop_pan,
    stepOp, ev, upd_apply, putF, cellsOf, deref, faddrV, mk, abin, abinI, abinS, ibits, aeqb, aun, fldV, idxOf, elems, isPtr, putRef, splice, fillA, rowsA, minV, peqV, elemsA, rowBytes, strOf, Store.get_push, Store.get_set, Store.n_push, Store.n_set,
    Option.map_some, Option.map_none, reduceIte, Nat.reduceEqDiff, Nat.reduceAdd, Nat.reduceLeDiff, Nat.reduceLT, Nat.zero_add, Nat.add_zero, Nat.add_assoc, Nat.add_left_cancel_iff, Nat.left_eq_add, Nat.add_eq_left, Nat.lt_irrefl, Nat.le_refl,
    List.drop_zero, List.drop_succ_cons, List.take_succ_cons, List.take_zero, List.headD_cons, List.length_cons, List.length_nil, List.getElem?_cons_zero, List.getElem?_cons_succ, List.set_cons_zero, List.set_cons_succ, List.map_cons, List.map_nil,
    Bool.not_true, Bool.not_false, Bool.false_eq_true, Bool.true_eq_false, Bool.not_eq_true', Bool.not_eq_false', eq_self, false_imp_iff, true_imp_iff, and_true, true_and, and_false, false_and, or_true, true_or, initFr, fr0_at, Qend, resL, resV1, pack,
    decide_eq_true_eq, decide_eq_false_iff_not, Int.toNat_natCast, Option.some.injEq, exists_eq_left', vcCond_T, vcCond_F]
  refine ⟨by unfold lenMax; omega, fun _ => ?_⟩
  refine vc_loop (fun n fr S' => ∃ i, i + n = k ∧ fr 0 = .int .i64 v ∧ fr 1 = .int .i64 k ∧ fr 6 = .own S.n 0 k ∧ fr 28 = .int .i64 k ∧ fr 29 = .int .i64 i ∧ fr 5 = .int .i64 0 ∧
    S'.get S.n = some (.row 5 1 0 (byteRow (List.replicate (k - i) 0 ++ beN i v))) ∧ Ext S S') k ⟨0, by simp, rfl, rfl, rfl, by simp [upd_apply], rfl, rfl, ?_, hx.push _⟩ ?_
  · simp [Store.get_push, beN, byteRow]
  rintro n fr S' ⟨i, hin, f0, f1, f6, f28, f29, f5, hrow, hS⟩
  by_cases hlt : i < k
  · have hlt' : (i : Int) < k := by omega
    have hwk : IntKind.i64.wrap ((k : Int) - 1) = k - 1 := w64 _ (by omega) (by omega)
    have hwi : IntKind.i64.wrap ((k : Int) - 1 - i) = k - 1 - i := w64 _ (by omega) (by omega)
    have hw8 : IntKind.i64.wrap (8 * (i : Int)) = 8 * i := w64 _ (by omega) (by omega)
    have hi1 : IntKind.i64.wrap ((i : Int) + 1) = i + 1 := w64 _ (by omega) (by omega)
    have hn8 : ¬ (8 * (i : Int) < 0) := by omega
    have hsh : (v : Int).fdiv (2 ^ min (8 * (i : Int)).toNat IntKind.i64.bits) = ((v / 2 ^ (8 * i) : Nat) : Int) := by
      have e : min (8 * (i : Int)).toNat IntKind.i64.bits = 8 * i := by
        have : IntKind.i64.bits = 64 := rfl
        rw [this]; omega
      rw [e, show ((2 : Int) ^ (8 * i)) = ((2 ^ (8 * i) : Nat) : Int) by push_cast; rfl, fdiv_nat]
    have hp : (0 : Int) ≤ (k : Int) - 1 - i := by omega
    have hj : ((k : Int) - 1 - i).toNat = k - 1 - i := by omega
    have hlen : (byteRow (List.replicate (k - i) 0 ++ beN i v)).length = k := by simp [byteRow, beN_length]; omega
    have hget : (byteRow (List.replicate (k - i) 0 ++ beN i v))[k - 1 - i]? = some [.int .u8 (0 : UInt8).toNat] := by
      simp only [byteRow, List.getElem?_map]
      rw [List.getElem?_append_left (by simp; omega), List.getElem?_replicate, if_pos (by omega)]; rfl
    have hset := rep_set _ (UInt8.ofNat (v / 2 ^ (8 * i))) k i (beN i v) hlt (beN_length i v) rfl
    simp -implicitDefEqProofs only [f0, f1, f6, f28, f29, f5, ashift, hlt', hwk, hwi, hw8, hi1, hn8, hsh, hp, hj, hrow, hlen, hget, w8, decide_true, vc_region, vc_quiet, vcD_nil, vcD_val, vcD_eff, vcD_guard, vcDOut, vcDEff, vcDGuard, saysAll, pendAll, pendNext, addPend, Says, vc_bad, vc_seq, vc_ret, vc_skip, vc_cond, vcCond, vc_block, vc_exit, vcGrps_nil, vcGrps_cons, vcGrps_guard, vcGuard, vcOps_nil, vcOps_cons, vcOut, KCall_ret, KCall_pan, skipF_nil, skipF_cons, Qseq_normal, Qseq_ret, Qseq_exit, Qseq_pan, Qblk_normal, Qblk_exit, Qblk_ret, Qblk_pan, Qpan_eq, Qcut_normal, Qcut_exit, Qcut_ret, Qcut_pan, Qloop_normal, Qloop_exit, Qloop_ret, Qloop_pan,
    stepOp, ev, upd_apply, putF, cellsOf, deref, faddrV, mk, abin, abinI, abinS, ibits, aeqb, aun, fldV, idxOf, elems, isPtr, putRef, splice, fillA, rowsA, minV, peqV, elemsA, rowBytes, strOf, Store.get_push, Store.get_set, Store.n_push, Store.n_set,
    Option.map_some, Option.map_none, reduceIte, Nat.reduceEqDiff, Nat.reduceAdd, Nat.reduceLeDiff, Nat.reduceLT, Nat.zero_add, Nat.add_zero, Nat.add_assoc, Nat.add_left_cancel_iff, Nat.left_eq_add, Nat.add_eq_left, Nat.lt_irrefl, Nat.le_refl,
    List.drop_zero, List.drop_succ_cons, List.take_succ_cons, List.take_zero, List.headD_cons, List.length_cons, List.length_nil, List.getElem?_cons_zero, List.getElem?_cons_succ, List.set_cons_zero, List.set_cons_succ, List.map_cons, List.map_nil,
    Bool.not_true, Bool.not_false, Bool.false_eq_true, Bool.true_eq_false, Bool.not_eq_true', Bool.not_eq_false', eq_self, false_imp_iff, true_imp_iff, and_true, true_and, and_false, false_and, or_true, true_or, initFr, fr0_at, Qend, resL, resV1, pack,
    decide_eq_true_eq, decide_eq_false_iff_not, Int.toNat_natCast, Option.some.injEq, exists_eq_left', vcCond_T, vcCond_F]
    refine ⟨by omega, n - 1, by omega, i + 1, by omega, by simp, ?_, hS.set _ _ (Nat.le_refl _)⟩
    rw [hset]; rfl
  · have hlt' : ¬ (i : Int) < k := by omega
    have hik : i = k := by omega
    subst hik
    have hb : bytesOf (byteRow (beN i v)) = some (beN i v) := bytesOf_byteRow _
    have hlen : (byteRow (beN i v)).length = i := by rw [byteRow_length, beN_length]
    have htk : (byteRow (beN i v)).take i = byteRow (beN i v) := by
      have := List.take_length (l := byteRow (beN i v)); rwa [hlen] at this
    simp only [Nat.sub_self, List.replicate_zero, List.nil_append] at hrow
    simp -implicitDefEqProofs only [f0, f1, f6, f28, f29, f5, hlt', hrow, hlen, htk, hb, decide_false, vc_region, vc_quiet, vcD_nil, vcD_val, vcD_eff, vcD_guard, vcDOut, vcDEff, vcDGuard, saysAll, pendAll, pendNext, addPend, Says, vc_bad, vc_seq, vc_ret, vc_skip, vc_cond, vcCond, vc_block, vc_exit, vcGrps_nil, vcGrps_cons, vcGrps_guard, vcGuard, vcOps_nil, vcOps_cons, vcOut, KCall_ret, KCall_pan, skipF_nil, skipF_cons, Qseq_normal, Qseq_ret, Qseq_exit, Qseq_pan, Qblk_normal, Qblk_exit, Qblk_ret, Qblk_pan, Qpan_eq, Qcut_normal, Qcut_exit, Qcut_ret, Qcut_pan, Qloop_normal, Qloop_exit, Qloop_ret, Qloop_pan,
    stepOp, ev, upd_apply, putF, cellsOf, deref, faddrV, mk, abin, abinI, abinS, ibits, aeqb, aun, fldV, idxOf, elems, isPtr, putRef, splice, fillA, rowsA, minV, peqV, elemsA, rowBytes, strOf, Store.get_push, Store.get_set, Store.n_push, Store.n_set,
    Option.map_some, Option.map_none, reduceIte, Nat.reduceEqDiff, Nat.reduceAdd, Nat.reduceLeDiff, Nat.reduceLT, Nat.zero_add, Nat.add_zero, Nat.add_assoc, Nat.add_left_cancel_iff, Nat.left_eq_add, Nat.add_eq_left, Nat.lt_irrefl, Nat.le_refl,
    List.drop_zero, List.drop_succ_cons, List.take_succ_cons, List.take_zero, List.headD_cons, List.length_cons, List.length_nil, List.getElem?_cons_zero, List.getElem?_cons_succ, List.set_cons_zero, List.set_cons_succ, List.map_cons, List.map_nil,
    Bool.not_true, Bool.not_false, Bool.false_eq_true, Bool.true_eq_false, Bool.not_eq_true', Bool.not_eq_false', eq_self, false_imp_iff, true_imp_iff, and_true, true_and, and_false, false_and, or_true, true_or, initFr, fr0_at, Qend, resL, resV1, pack,
    decide_eq_true_eq, decide_eq_false_iff_not, Int.toNat_natCast, Option.some.injEq, exists_eq_left', vcCond_T, vcCond_F]
    exact hS
end Go.Proofs.Ytmlllckecalaaaa.Eng

namespace Go.Proofs.Ytmlllckecalaaaa.Eng
open Go Go.Proofs.Try

def kOf (n : Nat) : Nat := if n < 256 then 1 else if n < 65536 then 2 else 3
def lenS (n : Nat) : List UInt8 := if n < 128 then [UInt8.ofNat n] else UInt8.ofNat (128 + kOf n) :: beN (kOf n) n
theorem kOf_lt (n : Nat) (h : n < 16777216) : 1 ≤ kOf n ∧ kOf n ≤ 3 ∧ n < 2 ^ (8 * kOf n) := by
  unfold kOf; split
  · exact ⟨by omega, by omega, by simpa using ‹_›⟩
  · split
    · exact ⟨by omega, by omega, by simpa using ‹_›⟩
    · exact ⟨by omega, by omega, by simpa using h⟩
theorem kOf_div (n k : Nat) (h : n < 16777216) (h1 : 1 ≤ k) (h2 : k ≤ kOf n) : (n / 2 ^ (8 * k) = 0) ↔ k = kOf n := by
  have hk := (kOf_lt n h).2.1
  have : k = 1 ∨ k = 2 ∨ k = 3 := by omega
  have e : kOf n = if n < 256 then 1 else if n < 65536 then 2 else 3 := rfl
  rw [e] at h2 ⊢
  by_cases h3 : n < 256
  · rw [if_pos h3] at h2 ⊢
    obtain rfl : k = 1 := by omega
    show n / 256 = 0 ↔ 1 = 1
    constructor <;> intro _ <;> omega
  · rw [if_neg h3] at h2 ⊢
    by_cases h4 : n < 65536
    · rw [if_pos h4] at h2 ⊢
      rcases this with rfl | rfl | rfl
      · show n / 256 = 0 ↔ 1 = 2
        constructor <;> intro _ <;> omega
      · show n / 65536 = 0 ↔ 2 = 2
        constructor <;> intro _ <;> omega
      · show n / 16777216 = 0 ↔ 3 = 2
        constructor <;> intro _ <;> omega
    · rw [if_neg h4] at h2 ⊢
      rcases this with rfl | rfl | rfl
      · show n / 256 = 0 ↔ 1 = 3
        constructor <;> intro _ <;> omega
      · show n / 65536 = 0 ↔ 2 = 3
        constructor <;> intro _ <;> omega
      · show n / 16777216 = 0 ↔ 3 = 3
        constructor <;> intro _ <;> omega

theorem c64 (n : Nat) (hn : n < 16777216) : Pure prog 64 [.int .i64 n] (.str (lenS n)) := by
  refine Pure.of (fun _ _ => by simp only [nm]) fun S => acalls_of_vc low64 (by simp) ?_
  have hx := Ext.refl S
  obtain ⟨hk1, hk3, hkn⟩ := kOf_lt n hn
  by_cases h128 : n < 128
  · have h' : (n : Int) < 128 := by omega
    simp -implicitDefEqProofs only [B64, h', w8, bytesOf, decide_true, vc_region, vc_quiet, vcD_nil, vcD_val, vcD_eff, vcD_guard, vcDOut, vcDEff, vcDGuard, saysAll, pendAll, pendNext, addPend, Says, vc_bad, vc_seq, vc_ret, vc_skip, vc_cond, vcCond, vc_block, vc_exit, vcGrps_nil, vcGrps_cons, vcGrps_guard, vcGuard, vcOps_nil, vcOps_cons, vcOut, KCall_ret, KCall_pan, skipF_nil, skipF_cons, Qseq_normal, Qseq_ret, Qseq_exit, Qseq_pan, Qblk_normal, Qblk_exit, Qblk_ret, Qblk_pan, Qpan_eq, Qcut_normal, Qcut_exit, Qcut_ret, Qcut_pan, Qloop_normal, Qloop_exit, Qloop_ret, Qloop_pan,
    stepOp, ev, upd_apply, putF, cellsOf, deref, faddrV, mk, abin, abinI, abinS, ibits, aeqb, aun, fldV, idxOf, elems, isPtr, putRef, splice, fillA, rowsA, minV, peqV, elemsA, rowBytes, strOf, Store.get_push, Store.get_set, Store.n_push, Store.n_set,
    Option.map_some, Option.map_none, reduceIte, Nat.reduceEqDiff, Nat.reduceAdd, Nat.reduceLeDiff, Nat.reduceLT, Nat.zero_add, Nat.add_zero, Nat.add_assoc, Nat.add_left_cancel_iff, Nat.left_eq_add, Nat.add_eq_left, Nat.lt_irrefl, Nat.le_refl,
    List.drop_zero, List.drop_succ_cons, List.take_succ_cons, List.take_zero, List.headD_cons, List.length_cons, List.length_nil, List.getElem?_cons_zero, List.getElem?_cons_succ, List.set_cons_zero, List.set_cons_succ, List.map_cons, List.map_nil,
    Bool.not_true, Bool.not_false, Bool.false_eq_true, Bool.true_eq_false, Bool.not_eq_true', Bool.not_eq_false', eq_self, false_imp_iff, true_imp_iff, and_true, true_and, and_false, false_and, or_true, true_or, initFr, fr0_at, Qend, resL, resV1, pack,
    decide_eq_true_eq, decide_eq_false_iff_not, Int.toNat_natCast, Option.some.injEq, exists_eq_left', vcCond_T, vcCond_F]
    refine ⟨?_, hx⟩
    simp [lenS, h128]
    apply UInt8.toNat_inj.1
    simp
  · have h' : ¬ (n : Int) < 128 := by omega
    simp -implicitDefEqProofs only [B64, h', decide_false, vc_region, vc_quiet, vcD_nil, vcD_val, vcD_eff, vcD_guard, vcDOut, vcDEff, vcDGuard, saysAll, pendAll, pendNext, addPend, Says, vc_bad, vc_seq, vc_ret, vc_skip, vc_cond, vcCond, vc_block, vc_exit, vcGrps_nil, vcGrps_cons, vcGrps_guard, vcGuard, vcOps_nil, vcOps_cons, vcOut, KCall_ret, KCall_pan, skipF_nil, skipF_cons, Qseq_normal, Qseq_ret, Qseq_exit, Qseq_pan, Qblk_normal, Qblk_exit, Qblk_ret, Qblk_pan, Qpan_eq, Qcut_normal, Qcut_exit, Qcut_ret, Qcut_pan, Qloop_normal, Qloop_exit, Qloop_ret, Qloop_pan,
    stepOp, ev, upd_apply, putF, cellsOf, deref, faddrV, mk, abin, abinI, abinS, ibits, aeqb, aun, fldV, idxOf, elems, isPtr, putRef, splice, fillA, rowsA, minV, peqV, elemsA, rowBytes, strOf, Store.get_push, Store.get_set, Store.n_push, Store.n_set,
    Option.map_some, Option.map_none, reduceIte, Nat.reduceEqDiff, Nat.reduceAdd, Nat.reduceLeDiff, Nat.reduceLT, Nat.zero_add, Nat.add_zero, Nat.add_assoc, Nat.add_left_cancel_iff, Nat.left_eq_add, Nat.add_eq_left, Nat.lt_irrefl, Nat.le_refl,
    List.drop_zero, List.drop_succ_cons, List.take_succ_cons, List.take_zero, List.headD_cons, List.length_cons, List.length_nil, List.getElem?_cons_zero, List.getElem?_cons_succ, List.set_cons_zero, List.set_cons_succ, List.map_cons, List.map_nil,
    Bool.not_true, Bool.not_false, Bool.false_eq_true, Bool.true_eq_false, Bool.not_eq_true', Bool.not_eq_false', eq_self, false_imp_iff, true_imp_iff, and_true, true_and, and_false, false_and, or_true, true_or, initFr, fr0_at, Qend, resL, resV1, pack,
    decide_eq_true_eq, decide_eq_false_iff_not, Int.toNat_natCast, Option.some.injEq, exists_eq_left', vcCond_T, vcCond_F]
    refine vc_loop (fun m fr S' => ∃ k, k + m = kOf n ∧ 1 ≤ k ∧ fr 0 = .int .i64 n ∧ fr 3 = .int .i64 k ∧ Ext S S') (kOf n - 1) ⟨1, by omega, by omega, rfl, rfl, hx⟩ ?_
    rintro m fr S' ⟨k, hkm, hk, f0, f3, hS⟩
    have hw8 : IntKind.i64.wrap (8 * (k : Int)) = 8 * k := w64 _ (by omega) (by omega)
    have hi1 : IntKind.i64.wrap ((k : Int) + 1) = k + 1 := w64 _ (by omega) (by omega)
    have hn8 : ¬ (8 * (k : Int) < 0) := by omega
    have hsh : (n : Int).fdiv (2 ^ min (8 * (k : Int)).toNat IntKind.i64.bits) = ((n / 2 ^ (8 * k) : Nat) : Int) := by
      have e : min (8 * (k : Int)).toNat IntKind.i64.bits = 8 * k := by
        have : IntKind.i64.bits = 64 := rfl
        rw [this]; omega
      rw [e, show ((2 : Int) ^ (8 * k)) = ((2 ^ (8 * k) : Nat) : Int) by push_cast; rfl, fdiv_nat]
    have hd := kOf_div n k hn hk (by omega)
    by_cases hlt : k = kOf n
    · have h0 : ((n / 2 ^ (8 * k) : Nat) : Int) = 0 := by rw [hd.2 hlt]; rfl
      have hwk : IntKind.i64.wrap (128 + (k : Int)) = ((128 + k : Nat) : Int) := by rw [w64 _ (by omega) (by omega)]; push_cast; rfl
      simp -implicitDefEqProofs only [f0, f3, ashift, hw8, hi1, hn8, hsh, h0, ne_eq, not_true, not_false_eq_true, decide_false, decide_true, vc_region, vc_quiet, vcD_nil, vcD_val, vcD_eff, vcD_guard, vcDOut, vcDEff, vcDGuard, saysAll, pendAll, pendNext, addPend, Says, vc_bad, vc_seq, vc_ret, vc_skip, vc_cond, vcCond, vc_block, vc_exit, vcGrps_nil, vcGrps_cons, vcGrps_guard, vcGuard, vcOps_nil, vcOps_cons, vcOut, KCall_ret, KCall_pan, skipF_nil, skipF_cons, Qseq_normal, Qseq_ret, Qseq_exit, Qseq_pan, Qblk_normal, Qblk_exit, Qblk_ret, Qblk_pan, Qpan_eq, Qcut_normal, Qcut_exit, Qcut_ret, Qcut_pan, Qloop_normal, Qloop_exit, Qloop_ret, Qloop_pan,
    stepOp, ev, upd_apply, putF, cellsOf, deref, faddrV, mk, abin, abinI, abinS, ibits, aeqb, aun, fldV, idxOf, elems, isPtr, putRef, splice, fillA, rowsA, minV, peqV, elemsA, rowBytes, strOf, Store.get_push, Store.get_set, Store.n_push, Store.n_set,
    Option.map_some, Option.map_none, reduceIte, Nat.reduceEqDiff, Nat.reduceAdd, Nat.reduceLeDiff, Nat.reduceLT, Nat.zero_add, Nat.add_zero, Nat.add_assoc, Nat.add_left_cancel_iff, Nat.left_eq_add, Nat.add_eq_left, Nat.lt_irrefl, Nat.le_refl,
    List.drop_zero, List.drop_succ_cons, List.take_succ_cons, List.take_zero, List.headD_cons, List.length_cons, List.length_nil, List.getElem?_cons_zero, List.getElem?_cons_succ, List.set_cons_zero, List.set_cons_succ, List.map_cons, List.map_nil,
    Bool.not_true, Bool.not_false, Bool.false_eq_true, Bool.true_eq_false, Bool.not_eq_true', Bool.not_eq_false', eq_self, false_imp_iff, true_imp_iff, and_true, true_and, and_false, false_and, or_true, true_or, initFr, fr0_at, Qend, resL, resV1, pack,
    decide_eq_true_eq, decide_eq_false_iff_not, Int.toNat_natCast, Option.some.injEq, exists_eq_left', vcCond_T, vcCond_F]
      subst hlt
      refine (c70 n (kOf n) hk1 (by omega) hkn).use ?_
      simp -implicitDefEqProofs only [f0, f3, hwk, w8, bytesOf, beN_length, vc_region, vc_quiet, vcD_nil, vcD_val, vcD_eff, vcD_guard, vcDOut, vcDEff, vcDGuard, saysAll, pendAll, pendNext, addPend, Says, vc_bad, vc_seq, vc_ret, vc_skip, vc_cond, vcCond, vc_block, vc_exit, vcGrps_nil, vcGrps_cons, vcGrps_guard, vcGuard, vcOps_nil, vcOps_cons, vcOut, KCall_ret, KCall_pan, skipF_nil, skipF_cons, Qseq_normal, Qseq_ret, Qseq_exit, Qseq_pan, Qblk_normal, Qblk_exit, Qblk_ret, Qblk_pan, Qpan_eq, Qcut_normal, Qcut_exit, Qcut_ret, Qcut_pan, Qloop_normal, Qloop_exit, Qloop_ret, Qloop_pan,
    stepOp, ev, upd_apply, putF, cellsOf, deref, faddrV, mk, abin, abinI, abinS, ibits, aeqb, aun, fldV, idxOf, elems, isPtr, putRef, splice, fillA, rowsA, minV, peqV, elemsA, rowBytes, strOf, Store.get_push, Store.get_set, Store.n_push, Store.n_set,
    Option.map_some, Option.map_none, reduceIte, Nat.reduceEqDiff, Nat.reduceAdd, Nat.reduceLeDiff, Nat.reduceLT, Nat.zero_add, Nat.add_zero, Nat.add_assoc, Nat.add_left_cancel_iff, Nat.left_eq_add, Nat.add_eq_left, Nat.lt_irrefl, Nat.le_refl,
    List.drop_zero, List.drop_succ_cons, List.take_succ_cons, List.take_zero, List.headD_cons, List.length_cons, List.length_nil, List.getElem?_cons_zero, List.getElem?_cons_succ, List.set_cons_zero, List.set_cons_succ, List.map_cons, List.map_nil,
    Bool.not_true, Bool.not_false, Bool.false_eq_true, Bool.true_eq_false, Bool.not_eq_true', Bool.not_eq_false', eq_self, false_imp_iff, true_imp_iff, and_true, true_and, and_false, false_and, or_true, true_or, initFr, fr0_at, Qend, resL, resV1, pack,
    decide_eq_true_eq, decide_eq_false_iff_not, Int.toNat_natCast, Option.some.injEq, exists_eq_left', vcCond_T, vcCond_F]
      refine ⟨by unfold strMax; omega, ?_, hS⟩
      · simp only [lenS, if_neg h128, List.cons_append, List.nil_append, AEnd.ret.injEq, AV.str.injEq, List.cons.injEq, and_true]
        apply UInt8.toNat_inj.1
        simp
    · have h0 : ¬ ((n / 2 ^ (8 * k) : Nat) : Int) = 0 := fun h => hlt (hd.1 (by omega))
      simp -implicitDefEqProofs only [f0, f3, ashift, hw8, hi1, hn8, hsh, h0, ne_eq, not_true, not_false_eq_true, decide_false, decide_true, vc_region, vc_quiet, vcD_nil, vcD_val, vcD_eff, vcD_guard, vcDOut, vcDEff, vcDGuard, saysAll, pendAll, pendNext, addPend, Says, vc_bad, vc_seq, vc_ret, vc_skip, vc_cond, vcCond, vc_block, vc_exit, vcGrps_nil, vcGrps_cons, vcGrps_guard, vcGuard, vcOps_nil, vcOps_cons, vcOut, KCall_ret, KCall_pan, skipF_nil, skipF_cons, Qseq_normal, Qseq_ret, Qseq_exit, Qseq_pan, Qblk_normal, Qblk_exit, Qblk_ret, Qblk_pan, Qpan_eq, Qcut_normal, Qcut_exit, Qcut_ret, Qcut_pan, Qloop_normal, Qloop_exit, Qloop_ret, Qloop_pan,
    stepOp, ev, upd_apply, putF, cellsOf, deref, faddrV, mk, abin, abinI, abinS, ibits, aeqb, aun, fldV, idxOf, elems, isPtr, putRef, splice, fillA, rowsA, minV, peqV, elemsA, rowBytes, strOf, Store.get_push, Store.get_set, Store.n_push, Store.n_set,
    Option.map_some, Option.map_none, reduceIte, Nat.reduceEqDiff, Nat.reduceAdd, Nat.reduceLeDiff, Nat.reduceLT, Nat.zero_add, Nat.add_zero, Nat.add_assoc, Nat.add_left_cancel_iff, Nat.left_eq_add, Nat.add_eq_left, Nat.lt_irrefl, Nat.le_refl,
    List.drop_zero, List.drop_succ_cons, List.take_succ_cons, List.take_zero, List.headD_cons, List.length_cons, List.length_nil, List.getElem?_cons_zero, List.getElem?_cons_succ, List.set_cons_zero, List.set_cons_succ, List.map_cons, List.map_nil,
    Bool.not_true, Bool.not_false, Bool.false_eq_true, Bool.true_eq_false, Bool.not_eq_true', Bool.not_eq_false', eq_self, false_imp_iff, true_imp_iff, and_true, true_and, and_false, false_and, or_true, true_or, initFr, fr0_at, Qend, resL, resV1, pack,
    decide_eq_true_eq, decide_eq_false_iff_not, Int.toNat_natCast, Option.some.injEq, exists_eq_left', vcCond_T, vcCond_F]
      exact ⟨m - 1, by omega, k + 1, by omega, by omega, by simp, hS⟩
end Go.Proofs.Ytmlllckecalaaaa.Eng

namespace Go.Proofs.Ytmlllckecalaaaa.Eng
open Go Go.Proofs.Try

def maxB : Nat := 140737488351232
def i64ok (n : Int) : Prop := -9223372036854775808 ≤ n ∧ n ≤ 9223372036854775807
mutual
/-- What holds of every element that comes in. -/
def okE : Elem → Prop
  | .mk c t _ b ks _ => i64ok c ∧ i64ok t ∧ b.length ≤ maxB ∧ ks.length * 64 ≤ maxB ∧ okEs ks
def okEs : List Elem → Prop
  | [] => True
  | k :: ks => okE k ∧ okEs ks
end
theorem okEs_mem : ∀ (ks : List Elem), okEs ks → ∀ k ∈ ks, okE k
  | [], _, k, h => by simp at h
  | x :: ks, h, k, hk => by
    simp only [okEs] at h
    rcases List.mem_cons.1 hk with rfl | hk
    · exact h.1
    · exact okEs_mem ks h.2 k hk
theorem okE_eta {e : Elem} (h : okE e) : i64ok e.cls ∧ i64ok e.tag ∧ e.bytes.length ≤ maxB ∧ e.kids.length * 64 ≤ maxB ∧ ∀ k ∈ e.kids, okE k := by
  cases e; simp only [okE, Elem.cls, Elem.tag, Elem.bytes, Elem.kids] at h ⊢
  exact ⟨h.1, h.2.1, h.2.2.1, h.2.2.2.1, okEs_mem _ h.2.2.2.2⟩

/-! ## What the functions tell -/
def tagOk (e : Elem) : Bool := decide (0 ≤ e.cls ∧ e.cls ≤ 3 ∧ 0 ≤ e.tag ∧ e.tag ≤ 30)
def formOk (e : Elem) : Bool := if e.cons then decide (e.bytes = []) else decide (e.kids.length = 0)
mutual
def eachS (p : Elem → Bool) : Elem → Int → Bool
  | .mk c t k b ks ext, w => decide (w ≥ 20) || (p (.mk c t k b ks ext) && eachSs p ks (w + 1))
def eachSs (p : Elem → Bool) : List Elem → Int → Bool
  | [], _ => true
  | k :: ks, w => eachS p k w && eachSs p ks w
end
mutual
def deepS : Elem → Int → Bool
  | .mk _ _ _ _ ks _, w => decide (w ≥ 20) || deepSs ks (w + 1)
def deepSs : List Elem → Int → Bool
  | [], _ => false
  | k :: ks, w => deepS k w || deepSs ks w
end
mutual
def manyS : Elem → Int
  | .mk _ _ _ _ ks _ => manySs ks 1
def manySs : List Elem → Int → Int
  | [], n => n
  | k :: ks, n => if n ≤ 500 then manySs ks (IntKind.i64.wrap (n + manyS k)) else n
end
mutual
def sizeS : Elem → Nat
  | .mk _ _ _ b ks _ => min (1 + (lenS (min (sizeSs ks b.length) 65537)).length + sizeSs ks b.length) 65537
def sizeSs : List Elem → Nat → Nat
  | [], n => n
  | k :: ks, n => sizeSs ks (min (n + sizeS k) 65537)
end
def firstS (e : Elem) : UInt8 := UInt8.ofNat (64 * e.cls.toNat + e.tag.toNat + if e.cons then 32 else 0)
def sumS : List Elem → Nat
  | [] => 0
  | k :: ks => sizeS k + sumS ks
mutual
def putS : Elem → List UInt8
  | .mk c t k b ks ext => firstS (.mk c t k b ks ext) :: (lenS (b.length + sumS ks) ++ (b ++ putSs ks))
def putSs : List Elem → List UInt8
  | [] => []
  | k :: ks => putS k ++ putSs ks
end
def writeS (e : Elem) : List UInt8 × Int :=
  if !eachS tagOk e 0 then ([], 21) else if !eachS formOk e 0 then ([], 24) else if deepS e 0 then ([], 23) else if sizeS e > 65536 then ([], 2) else (putS e, 0)
mutual
def sameS : Elem → Elem → Bool
  | .mk c t k b ks _, e => decide (c = e.cls) && (decide (t = e.tag) && (decide (k = e.cons) && (decide (b = e.bytes) && sameSs ks e.kids)))
def sameSs : List Elem → List Elem → Bool
  | [], l => l.isEmpty
  | k :: ks, l => match l with
    | [] => false
    | x :: xs => sameS k x && sameSs ks xs
end
def marker : List AV := [.int .i64 0, .int .i64 (-77), .bool false, .str [], .lit (.slice none 0 0)]
mutual
def lentS : Elem → Elem
  | .mk c t k b ks _ => .mk c t k b (lentSs ks) [marker]
def lentSs : List Elem → List Elem
  | [] => []
  | k :: ks => lentS k :: lentSs ks
end

/-! ## The same, by the fields -/
theorem eachS_eta (p : Elem → Bool) (e : Elem) (w : Int) : eachS p e w = (decide (w ≥ 20) || (p e && eachSs p e.kids (w + 1))) := by cases e; simp only [eachS, Elem.kids]
theorem deepS_eta (e : Elem) (w : Int) : deepS e w = (decide (w ≥ 20) || deepSs e.kids (w + 1)) := by cases e; simp only [deepS, Elem.kids]
theorem manyS_eta (e : Elem) : manyS e = manySs e.kids 1 := by cases e; simp only [manyS, Elem.kids]
theorem sizeS_eta (e : Elem) : sizeS e = min (1 + (lenS (min (sizeSs e.kids e.bytes.length) 65537)).length + sizeSs e.kids e.bytes.length) 65537 := by cases e; simp only [sizeS, Elem.kids, Elem.bytes]
theorem putS_eta (e : Elem) : putS e = firstS e :: (lenS (e.bytes.length + sumS e.kids) ++ (e.bytes ++ putSs e.kids)) := by cases e; simp only [putS, Elem.kids, Elem.bytes]
theorem sameS_eta (a e : Elem) : sameS a e = (decide (a.cls = e.cls) && (decide (a.tag = e.tag) && (decide (a.cons = e.cons) && (decide (a.bytes = e.bytes) && sameSs a.kids e.kids)))) := by
  cases a; cases e; simp only [sameS, Elem.kids, Elem.bytes, Elem.cls, Elem.tag, Elem.cons]; rfl

theorem sizeSs_app : ∀ (a : List Elem) (k : Elem) (n : Nat), sizeSs (a ++ [k]) n = min (sizeSs a n + sizeS k) 65537
  | [], k, n => by simp [sizeSs]
  | x :: a, k, n => by simp only [List.cons_append, sizeSs]; exact sizeSs_app a k _
theorem take_succ {ks : List Elem} {i : Nat} {k : Elem} (h : ks[i]? = some k) : ks.take (i + 1) = ks.take i ++ [k] := by
  rw [List.take_add_one, h]; rfl
theorem drop_cons {ks : List Elem} {i : Nat} {k : Elem} (h : ks[i]? = some k) : ks.drop i = k :: ks.drop (i + 1) := by
  have hi := (List.getElem?_eq_some_iff.1 h)
  obtain ⟨hlt, he⟩ := hi
  rw [List.drop_eq_getElem_cons hlt, he]

theorem lenS_length (n : Nat) : (lenS n).length ≤ 4 ∧ 1 ≤ (lenS n).length := by
  unfold lenS kOf; split
  · simp
  · simp only [List.length_cons, beN_length]; split
    · omega
    · split <;> omega
theorem sizeS_le (e : Elem) : sizeS e ≤ 65537 := by rw [sizeS_eta]; exact Nat.min_le_right _ _
theorem sizeSs_le : ∀ (ks : List Elem) (n : Nat), sizeSs ks n ≤ max n 65537
  | [], n => by simp only [sizeSs]; omega
  | k :: ks, n => by simp only [sizeSs]; have := sizeSs_le ks (min (n + sizeS k) 65537); omega
theorem sizeSs_mono : ∀ (ks : List Elem) (n : Nat), 65537 ≤ n → 65537 ≤ sizeSs ks n
  | [], n, h => h
  | k :: ks, n, h => by simp only [sizeSs]; exact sizeSs_mono ks _ (by omega)
theorem sizeSs_sum : ∀ (ks : List Elem) (n : Nat), sizeSs ks n ≤ 65536 → sizeSs ks n = n + sumS ks ∧ ∀ k ∈ ks, sizeS k ≤ 65536
  | [], n, _ => by simp [sizeSs, sumS]
  | k :: ks, n, h => by
    simp only [sizeSs] at h ⊢
    have h1 : n + sizeS k < 65537 := by
      rcases Nat.lt_or_ge (n + sizeS k) 65537 with h1 | h1
      · exact h1
      · have := sizeSs_mono ks (min (n + sizeS k) 65537) (by omega); omega
    have e : min (n + sizeS k) 65537 = n + sizeS k := by omega
    rw [e] at h ⊢
    obtain ⟨a, b⟩ := sizeSs_sum ks _ h
    refine ⟨by rw [a, sumS]; omega, fun x hx => ?_⟩
    rcases List.mem_cons.1 hx with rfl | hx
    · omega
    · exact b x hx
theorem sizeS_sum (e : Elem) (h : sizeS e ≤ 65536) : sizeS e = 1 + (lenS (e.bytes.length + sumS e.kids)).length + (e.bytes.length + sumS e.kids) ∧ (∀ k ∈ e.kids, sizeS k ≤ 65536) ∧ e.bytes.length + sumS e.kids ≤ 65536 := by
  rw [sizeS_eta] at h
  have h1 : sizeSs e.kids e.bytes.length ≤ 65536 := by omega
  obtain ⟨a, b⟩ := sizeSs_sum _ _ h1
  rw [sizeS_eta, a]
  rw [a] at h h1
  have e1 : min (e.bytes.length + sumS e.kids) 65537 = e.bytes.length + sumS e.kids := by omega
  rw [e1] at h ⊢
  exact ⟨by omega, b, by omega⟩
mutual
theorem putS_length : ∀ (e : Elem), sizeS e ≤ 65536 → (putS e).length = sizeS e
  | .mk c t k b ks ext, h => by
    obtain ⟨h1, h2, _⟩ := sizeS_sum _ h
    simp only [Elem.kids, Elem.bytes] at h1 h2
    rw [h1]
    simp only [putS, List.length_cons, List.length_append]
    rw [putSs_length ks h2]; omega
theorem putSs_length : ∀ (ks : List Elem), (∀ k ∈ ks, sizeS k ≤ 65536) → (putSs ks).length = sumS ks
  | [], _ => rfl
  | k :: ks, h => by
    simp only [putSs, sumS, List.length_append]
    rw [putS_length k (h k (by simp)), putSs_length ks fun x hx => h x (by simp [hx])]
end
theorem putSs_app : ∀ (a : List Elem) (k : Elem), putSs (a ++ [k]) = putSs a ++ putS k
  | [], k => by simp [putSs]
  | x :: a, k => by simp only [List.cons_append, putSs, putSs_app a k, List.append_assoc]
theorem sumS_app : ∀ (a : List Elem) (k : Elem), sumS (a ++ [k]) = sumS a + sizeS k
  | [], k => by simp [sumS]
  | x :: a, k => by simp only [List.cons_append, sumS, sumS_app a k]; omega
theorem sumS_take (ks : List Elem) (i : Nat) : sumS (ks.take i) ≤ sumS ks := by
  induction ks generalizing i with
  | nil => simp
  | cons k ks ih => cases i with
    | zero => simp [sumS]
    | succ i => simp only [List.take_succ_cons, sumS]; have := ih i; omega
end Go.Proofs.Ytmlllckecalaaaa.Eng
