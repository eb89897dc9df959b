import Derived.Still
import Derived.ChangeArms
import Derived.Deep.Slices
import Derived.WideShapes
import Derived.WalkKit
import Derived.ProofKit
import Derived.OpenShut
import Derived.ShutString
import Derived.ChangeOld
import Derived.Below
import Derived.SizedLaws
import Derived.JoinedCond
import Derived.Deep.CondSized
import Derived.Deep.DeepHandedRow
import Derived.Lib.LaidTab
import Derived.Test.YtajbeippbabhhaaGreatDoorB0649a2ad
set_option linter.unusedVariables false
set_option linter.unusedSimpArgs false
namespace Go.Proofs.YtajbeippbabhhaaGreatDoor.Eng
open Go

theorem ACalls.mono {P : Program} {f : FuncId} {args : List AV} {S : Store} {K K' : AEnd → Store → Prop} (h : ACalls P f args S K) (hk : ∀ r S, K r S → K' r S) : ACalls P f args S K' :=
  fun μ w vs hr hv => (h μ w vs hr hv).mono fun e w' ⟨μ', S', r, h1, h2⟩ => ⟨μ', S', r, hk _ _ h1, h2⟩

theorem OutK.mono {P : Program} {K K' E E' : AV → Store → Prop} {S : Store} {out : Out} (hk : ∀ v S, K v S → K' v S) (he : ∀ v S, E v S → E' v S) (h : OutK P K E S out) : OutK P K' E' S out := by
  cases out with
  | val v => exact hk _ _ h
  | st v S' => exact hk _ _ h
  | asks p g v S' => exact ⟨h.1, fun hg => hk _ _ (h.2 hg)⟩
  | call f args => exact ACalls.mono h fun r S' hr => by cases r; exact hk _ _ hr; exact he _ _ hr
  | pan v => exact he _ _ h

section
variable {P : Program} {K : Fr → Store → Prop} {E : AV → Fr → Store → Prop}

theorem vcOps_step {d : Option Nat} {lo : LOp} {rest : List (Option Nat × LOp)} {fr : Fr} {S : Store} (h : vcOps P K E ((d, lo) :: rest) fr S) :
    ∃ out, stepOp P fr S lo = some out ∧ OutK P (fun v S' => vcOps P K E rest (putF fr d v) S') (fun v S' => E v fr S') S out := by
  simp only [vcOps] at h
  cases hs : stepOp P fr S lo with
  | none => rw [hs] at h; exact h.elim
  | some out =>
    rw [hs] at h
    refine ⟨out, rfl, ?_⟩
    cases out with
    | call f args => exact ACalls.mono h fun r S' hr => by cases r <;> exact hr
    | _ => exact h

def Step1 (P : Program) (K : Fr → Store → Prop) (E : AV → Fr → Store → Prop) (gs : List LGrp) (d : Option Nat) (lo : LOp) (fr : Fr) (S : Store) : Prop :=
  ∃ out, stepOp P fr S lo = some out ∧ OutK P (fun v S' => vcGrps P K E gs (putF fr d v) S') (fun v S' => E v fr S') S out

theorem upd_id {fr : Fr} {s : Nat} {v : AV} (h : fr s = v) : upd fr s v = fr := by rw [← h]; exact upd_self fr s

theorem putF_ne {fr : Fr} {d : Option Nat} {v : AV} {s : Nat} (h : ∀ t, d = some t → s ≠ t) : putF fr d v s = fr s := by
  cases d with
  | none => rfl
  | some t => exact upd_ne _ _ (h t rfl)

theorem addGrp_none {d : Option Nat} {lo : LOp} {gs : List LGrp} {fr : Fr} {S : Store} (h : vcGrps P K E (addGrp none d lo gs) fr S) : Step1 P K E gs d lo fr S := by
  cases gs with
  | nil =>
    simp only [addGrp, vcGrps] at h
    obtain ⟨out, h1, h2⟩ := vcOps_step h
    exact ⟨out, h1, h2⟩
  | cons g rest =>
    obtain ⟨g, ops⟩ := g
    simp only [addGrp] at h
    split at h
    · rename_i hg
      subst hg
      simp only [vcGrps] at h
      obtain ⟨out, h1, h2⟩ := vcOps_step h
      exact ⟨out, h1, h2.mono (fun v S' h => by simpa only [vcGrps] using h) (fun _ _ h => h)⟩
    · simp only [vcGrps] at h
      obtain ⟨out, h1, h2⟩ := vcOps_step h
      refine ⟨out, h1, h2.mono (fun v S' h => ?_) (fun _ _ h => h)⟩
      simp only [vcOps] at h
      exact h

theorem addGrp_some {s : Nat} {want : Bool} {d : Option Nat} {lo : LOp} {gs : List LGrp} {fr : Fr} {S : Store} (hc : clear (some (s, want)) d = true) (h : vcGrps P K E (addGrp (some (s, want)) d lo gs) fr S) :
    (∃ b, fr s = .bool b ∧ (b = want → Step1 P K E gs d lo fr S) ∧ (b = !want → vcGrps P K E gs (putF fr d .und) S)) ∨ (fr s = .und ∧ vcGrps P K E gs (putF fr d .und) S) := by
  have hne : ∀ t, d = some t → s ≠ t := fun t ht => by
    subst ht
    simpa [clear] using hc
  have plain : vcGrps P K E (⟨some (s, want), [(d, lo)]⟩ :: gs) fr S → (∃ b, fr s = .bool b ∧ (b = want → Step1 P K E gs d lo fr S) ∧ (b = !want → vcGrps P K E gs (putF fr d .und) S)) ∨ (fr s = .und ∧ vcGrps P K E gs (putF fr d .und) S) := by
    intro h
    simp only [vcGrps] at h
    split at h
    · rename_i b hb
      refine .inl ⟨b, hb, fun e => ?_, fun e => ?_⟩
      · have h1 := h.1 e
        rw [upd_id (by rw [hb, e])] at h1
        obtain ⟨out, h2, h3⟩ := vcOps_step h1
        exact ⟨out, h2, h3.mono (fun v S' h => by simpa only [vcOps] using h) (fun _ _ h => h)⟩
      · have h1 := h.2 e
        rw [upd_id (by rw [hb, e])] at h1
        simpa only [skipF] using h1
    · rename_i hb
      exact .inr ⟨hb, by simpa only [skipF] using h⟩
    · exact h.elim
  cases gs with
  | nil => exact plain h
  | cons g rest =>
    obtain ⟨g, ops⟩ := g
    simp only [addGrp] at h
    split at h
    · rename_i hg
      subst hg
      simp only [vcGrps] at h
      split at h
      · rename_i b hb
        refine .inl ⟨b, hb, fun e => ?_, fun e => ?_⟩
        · have h1 := h.1 e
          rw [upd_id (by rw [hb, e])] at h1
          obtain ⟨out, h2, h3⟩ := vcOps_step h1
          refine ⟨out, h2, h3.mono (fun v S' h => ?_) (fun _ _ h => h)⟩
          have hs : putF fr d v s = .bool want := by rw [putF_ne hne, hb, e]
          rw [vcGrps_guard, hs]
          exact ⟨fun _ => (by rw [upd_id hs]; exact h), fun h' => (by cases want <;> cases h')⟩
        · have h1 := h.2 e
          rw [upd_id (by rw [hb, e])] at h1
          have hs : putF fr d .und s = .bool (!want) := by rw [putF_ne hne, hb, e]
          rw [vcGrps_guard, hs]
          exact ⟨fun h' => (by cases want <;> cases h'), fun _ => (by rw [upd_id hs]; exact h1)⟩
      · rename_i hb
        refine .inr ⟨hb, ?_⟩
        have hs : putF fr d .und s = .und := by rw [putF_ne hne, hb]
        rw [vcGrps_guard, hs]
        exact h
      · exact h.elim
    · exact plain h

/-! ## Regions -/
structure St (n : Nat) (ds : List Deferred) (μ : Mu) (S : Store) (w : World) (fr : Fr) (a : Act) : Prop where
  repr : Repr μ S w
  fr : FrRep μ (Mut μ S) w fr a
  size : a.tmps.size = n
  defers : a.defers = ds

def ExRel (μ : Mu) (M : Nat → Prop) (w : World) : AExit → Exit → Prop
  | .normal, .normal => True
  | .exit i, .exit j => i = j
  | .ret, .ret => True
  | .pan v, .panic ch => ∃ u, ch = [{ v := u, recovered := false }] ∧ Rep μ M w v u
  | _, _ => False

def Post (n : Nat) (ds : List Deferred) (μ : Mu) (M : Nat → Prop) (w : World) (Q : Qx) : Exit → Act → World → Prop := fun e a' w' =>
  ∃ μ' S' fr' x, Q x fr' S' ∧ St n ds μ' S' w' fr' a' ∧ Keeps μ M w μ' (Mut μ' S') w' ∧ ExRel μ' (Mut μ' S') w' x e

theorem Post.keep {n ds μ M w μ1 M1 w1 Q e a w'} (k : Keeps μ M w μ1 M1 w1) (h : Post n ds μ1 M1 w1 Q e a w') : Post n ds μ M w Q e a w' := by
  obtain ⟨μ', S', fr', x, h1, h2, h3, h4⟩ := h
  exact ⟨μ', S', fr', x, h1, h2, k.trans h3, h4⟩

theorem put_size (a : Act) (d : Option Tmp) (v : Value) : (a.put d v).tmps.size = a.tmps.size := by cases d <;> simp [Act.put]
theorem put_defers (a : Act) (d : Option Tmp) (v : Value) : (a.put d v).defers = a.defers := by cases d <;> simp [Act.put]

theorem St.put {n ds μ S w fr a} (h : St n ds μ S w fr a) {μ' S' w' v x} {d : Option Nat} (hd : dstOk n d = true) (hr : Repr μ' S' w') (hk : Keeps μ (Mut μ S) w μ' (Mut μ' S') w') (hv : Rep μ' (Mut μ' S') w' v x) : St n ds μ' S' w' (putF fr d v) (a.put d x) :=
  ⟨hr, (h.fr.keep hk).put hd h.size hv, by rw [put_size]; exact h.size, by rw [put_defers]; exact h.defers⟩

theorem wpList_mono {P : Program} {ops : Array Oper} {Q Q' : Exit → Act → World → Prop} (hq : ∀ e a w, Q e a w → Q' e a w) : ∀ (l : List Oper) (a : Act) (w : World), wpList P ops Q l a w → wpList P ops Q' l a w
  | [], a, w, h => hq _ _ _ h
  | o :: l, a, w, h => by
    simp only [wpList] at h ⊢
    split
    · rename_i hw
      rw [if_pos hw] at h
      rcases h with h | ⟨h1, h2⟩
      · refine .inl ?_
        unfold Oper.wp at h ⊢
        generalize (execOp a.eval o).run P w = r at h
        cases r with
        | ok x w' =>
          cases x <;> simp only [Oper.upon] at h ⊢ <;> first
            | exact wpList_mono hq l _ _ h
            | (refine Calls.mono h fun e w'' he => ?_
               cases e
               · exact wpList_mono hq l _ _ he
               · exact hq _ _ _ he
               · obtain ⟨a, w, h⟩ := he; exact ⟨a, w, hq _ _ _ h⟩)
            | exact Rows.mono h fun v w'' he => wpList_mono hq l _ _ he
            | exact h
        | halt x w' => cases x <;> simp only [Oper.upon] at h ⊢ <;> first | exact hq _ _ _ h | exact h
      · obtain ⟨a, w, h⟩ := h2; exact .inr ⟨h1, a, w, hq _ _ _ h⟩
    · rename_i hw
      rw [if_neg hw] at h
      exact wpList_mono hq l _ _ h

theorem lowerG_sound {n : Nat} {ops : Array Oper} {g : Option (Nat × Bool)} {s : Nat} {want : Bool} (h : lowerG n ops g = some (some (s, want))) : ∃ j o, g = some (j, want) ∧ ops[j]? = some o ∧ o.dst = some s ∧ s < n := by
  cases g with
  | none => simp [lowerG] at h
  | some jw =>
    obtain ⟨j, w⟩ := jw
    simp only [lowerG] at h
    split at h
    · rename_i o ho
      split at h
      · rename_i d hd
        split at h
        · rename_i hlt; simp only [Option.some.injEq, Prod.mk.injEq] at h; obtain ⟨rfl, rfl⟩ := h; exact ⟨j, o, rfl, ho, hd, hlt⟩
        · cases h
      · cases h
    · cases h

theorem yielded_of {ops : Array Oper} {a : Act} {j : Nat} {o : Oper} {s : Nat} (ho : ops[j]? = some o) (hd : o.dst = some s) (hs : s < a.tmps.size) : yielded ops a.tmps j = match a.tmps.getD s undef with | .bool b => some b | _ => none := by
  have h1 : a.tmps[s]? = some (a.tmps.getD s undef) := by simp [hs]
  unfold yielded
  simp only [ho, Option.bind_some, hd, h1]
  split <;> simp_all

theorem steps_sound {ow : List Nat} {n : Nat} {ds : List Deferred} {ops : Array Oper} : ∀ (l : List Oper) (gs : List LGrp) (fr : Fr) (S : Store) (μ : Mu) (w : World) (a : Act),
    lowerSteps ow P n ops l = some gs → vcGrps P K E gs fr S → St n ds μ S w fr a →
    wpList P ops (Post n ds μ (Mut μ S) w fun x => match x with | .normal => K | .pan v => E v | _ => fun _ _ => False) l a w
  | [], gs, fr, S, μ, w, a, hl, hv, hs => by
    simp only [lowerSteps, Option.some.injEq] at hl; subst hl
    simp only [vcGrps] at hv
    exact ⟨μ, S, fr, .normal, hv, hs, Keeps.refl _ _ _, trivial⟩
  | o :: l, gs, fr, S, μ, w, a, hl, hv, hs => by
    simp only [lowerSteps] at hl
    split at hl
    · rename_i g lo gs' hg hlo hl'
      split at hl
      · rename_i hc
        cases hl
        simp only [Bool.and_eq_true] at hc
        obtain ⟨hd, hclear⟩ := hc
        have run : Region.wanted o (yielded ops a.tmps) = true → Step1 P K E gs' o.dst lo fr S → wpList P ops (Post n ds μ (Mut μ S) w fun x => match x with | .normal => K | .pan v => E v | _ => fun _ _ => False) (o :: l) a w := by
          intro hw hst
          simp only [wpList, hw, if_true]
          refine .inl ?_
          obtain ⟨out, h1, h2⟩ := hst
          have hok := op_sound (o := o) (K := fun v S' => vcGrps P K E gs' (putF fr o.dst v) S') (E := fun v S' => E v fr S') hs.repr hs.fr hlo h1 h2
          unfold OpOk at hok
          unfold Oper.wp at hok ⊢
          generalize (execOp a.eval o).run P w = r at hok
          have next : ∀ a' w', (∃ μ' S' v x, vcGrps P K E gs' (putF fr o.dst v) S' ∧ a' = a.put o.dst x ∧ Repr μ' S' w' ∧ Keeps μ (Mut μ S) w μ' (Mut μ' S') w' ∧ Rep μ' (Mut μ' S') w' v x) →
              wpList P ops (Post n ds μ (Mut μ S) w fun x => match x with | .normal => K | .pan v => E v | _ => fun _ _ => False) l a' w' := by
            rintro a' w' ⟨μ', S', v, x, k1, rfl, k3, k4, k5⟩
            exact wpList_mono (fun e a w h => h.keep k4) l _ _ (steps_sound l gs' _ S' μ' w' _ hl' k1 (hs.put hd k3 k4 k5))
          have pan : ∀ e a' w', (∃ μ' S' v x, E v fr S' ∧ e = Exit.panic [{ v := x, recovered := false }] ∧ a' = a ∧ Repr μ' S' w' ∧ Keeps μ (Mut μ S) w μ' (Mut μ' S') w' ∧ Rep μ' (Mut μ' S') w' v x) →
              Post n ds μ (Mut μ S) w (fun x => match x with | .normal => K | .pan v => E v | _ => fun _ _ => False) e a' w' := by
            rintro e a' w' ⟨μ', S', v, x, k1, rfl, rfl, k3, k4, k5⟩
            exact ⟨μ', S', fr, .pan v, k1, ⟨k3, hs.fr.keep k4, hs.size, hs.defers⟩, k4, x, rfl, k5⟩
          cases r with
          | ok x w' =>
            cases x <;> dsimp only [Oper.upon] at hok ⊢ <;> first
              | exact hok.elim
              | exact next _ _ hok
              | (refine Calls.mono hok fun e w'' he => ?_
                 cases e
                 · exact next _ _ he
                 · exact pan _ _ _ he
                 · obtain ⟨_, _, _, _, _, _, _, h, _⟩ := he; cases h)
              | (obtain ⟨μ', S', v, x, k1, k2, k3, k4, k5⟩ := hok
                 have := congrArg (fun a : Act => a.defers.length) k2
                 simp [put_defers] at this)
              | exact Rows.mono hok fun v w'' he => next _ _ he
          | halt x w' => cases x <;> dsimp only [Oper.upon] at hok ⊢ <;> first | exact pan _ _ _ hok | exact hok.elim
        have skip : Region.wanted o (yielded ops a.tmps) = false → vcGrps P K E gs' (putF fr o.dst .und) S → wpList P ops (Post n ds μ (Mut μ S) w fun x => match x with | .normal => K | .pan v => E v | _ => fun _ _ => False) (o :: l) a w := by
          intro hw hst
          simp only [wpList, hw, Bool.false_eq_true, if_false]
          exact steps_sound l gs' _ S μ w _ hl' hst (hs.put hd hs.repr (Keeps.refl _ _ _) (by simp only [Rep]))
        cases g with
        | none =>
          have hgo : o.guard = none := by
            cases hgg : o.guard with
            | none => rfl
            | some jw =>
              obtain ⟨j, w'⟩ := jw
              rw [hgg] at hg
              simp only [lowerG] at hg
              split at hg
              · split at hg
                · split at hg <;> cases hg
                · cases hg
              · cases hg
          exact run (by simp [Region.wanted, hgo]) (addGrp_none hv)
        | some sw =>
          obtain ⟨s, want⟩ := sw
          obtain ⟨j, oj, hgo, hoj, hdj, hsn⟩ := lowerG_sound hg
          have hy := yielded_of (a := a) hoj hdj (by rw [hs.size]; exact hsn)
          have hrep := hs.fr s
          rcases addGrp_some hclear hv with ⟨b, hb, ht, hf⟩ | ⟨hb, hsk⟩
          · rw [hb] at hrep
            simp only [Rep] at hrep
            rw [hrep] at hy
            simp only at hy
            by_cases e : b = want
            · exact run (by simp [Region.wanted, hgo, hy, e]) (ht e)
            · have e' : b = !want := by cases b <;> cases want <;> simp_all
              refine skip ?_ (hf e')
              simp [Region.wanted, hgo, hy, e]
          · rw [hb] at hrep
            simp only [Rep] at hrep
            rw [hrep] at hy
            exact skip (by simp [Region.wanted, hgo, hy, undef]) hsk
      · cases hl
    · cases hl
end
end Go.Proofs.YtajbeippbabhhaaGreatDoor.Eng

namespace Go.Proofs.YtajbeippbabhhaaGreatDoor.Eng
open Go

/-! ## What an operation tells does not hang on what a map holds -/
theorem get_addIns (g : Ins) (S : Store) (j : Nat) : (addIns g S).get j = insO g j (S.get j) := rfl
theorem n_addIns (g : Ins) (S : Store) : (addIns g S).n = S.n := rfl
theorem insF_none {g : Ins} {j : Nat} {f : Int → Option AV} (h : ∀ k, g j k = none) : insF g j f = f := by funext k; simp [insF, h k]
theorem insO_new {g : Ins} {j : Nat} (h : ∀ k, g j k = none) (o : Option AObj) : insO g j o = o := by
  unfold insO
  split
  · rw [insF_none h]
  · rfl
theorem addIns_none {g : Ins} (h : ∀ j k, g j k = none) (S : Store) : addIns g S = S := by
  obtain ⟨f, n⟩ := S
  simp only [addIns, Store.mk.injEq, and_true]
  funext j
  exact insO_new (h j) _
theorem addIns_add {g g' : Ins} (S : Store) : addIns g' (addIns g S) = addIns (fun j k => match g' j k with
  | some v => some v
  | none => g j k) S := by
  unfold addIns
  simp only [Store.mk.injEq, and_true]
  funext j
  cases h : S.get j with
  | none => rfl
  | some o =>
    cases o <;> first | rfl | skip
    simp only [insO, Option.some.injEq, AObj.mpo.injEq]
    funext k
    simp only [insF]
    cases g' j k <;> rfl
theorem addIns_push {ins : Ins} {S : Store} (h : ∀ k, ins S.n k = none) (o : AObj) : addIns ins (S.push o) = (addIns ins S).push o := by
  unfold addIns Store.push
  simp only [Store.mk.injEq, and_true]
  funext j
  by_cases e : j = S.n
  · subst e; simp only [upd_same]; exact insO_new h _
  · simp only [upd_ne _ _ e]
def noMap : Option AObj → Prop
  | some (.mpo _) => False
  | _ => True
theorem addIns_set {ins : Ins} {S : Store} {o : Option AObj} (h : noMap o) (l : Nat) : addIns ins (S.set l o) = (addIns ins S).set l o := by
  unfold addIns Store.set
  simp only [Store.mk.injEq, and_true]
  funext j
  by_cases e : j = l
  · subst e; simp only [upd_same]; cases o with
    | none => rfl
    | some o => cases o <;> first | rfl | exact h.elim
  · simp only [upd_ne _ _ e]
def mapOut (g : Store → Store) : Out → Out
  | .st v S => .st v (g S)
  | .asks p q v S => .asks p q v (g S)
  | o => o
section
variable {P : Program} {ins : Ins} {S : Store} {fr : Fr}
theorem deref_ins (v : AV) : deref (addIns ins S) v = deref S v := by
  unfold deref
  split
  · rename_i l off
    rw [get_addIns]
    cases h : S.get l with
    | none => rfl
    | some o => cases o <;> rfl
  · rename_i l i r
    rw [get_addIns]
    cases h : S.get l with
    | none => rfl
    | some o => cases o <;> rfl
  · rfl
  · rfl
theorem elems_ins (v : AV) : elems (addIns ins S) v = elems S v := by
  unfold elems
  split <;> try rfl
  rename_i l off len
  rw [get_addIns]
  cases h : S.get l with
  | none => rfl
  | some o => cases o <;> rfl
theorem elemsA_ins (b : Bool) (v : AV) : elemsA b (addIns ins S) v = elemsA b S v := by
  unfold elemsA; rw [elems_ins]
theorem putRef_ins (p : AV) (new : List AV) : putRef (addIns ins S) p new = (putRef S p new).map (addIns ins) := by
  unfold putRef
  split
  · rename_i l off
    rw [get_addIns]
    cases h : S.get l with
    | none => rfl
    | some o => cases o <;> simp only [insO] <;> first | rfl | (split <;> first | rfl | (simp only [Option.map_some, Option.some.injEq]; exact (addIns_set (by simp only [noMap]) _).symm))
  · rename_i l i r
    rw [get_addIns]
    cases h : S.get l with
    | none => rfl
    | some o =>
      cases o with
      | row t s frz es =>
        simp only [insO]
        cases frz with
        | zero => simp only; split <;> first | rfl | (split <;> first | rfl | (simp only [Option.map_some, Option.some.injEq]; exact (addIns_set (by simp only [noMap]) _).symm))
        | succ n => rfl
      | _ => rfl
  · rfl

theorem strOf_ins (e : Nat) (x : AV) (k : Int) : strOf (addIns ins S) e x k = strOf S e x k := by
  unfold strOf
  split
  · rfl
  · split
    · rename_i l
      rw [get_addIns]
      cases h : S.get l with
      | none => rfl
      | some o => cases o <;> rfl
    · rfl

def notMap : LOp → Bool
  | .mins .. | .mget .. => false
  | _ => true
theorem stepOp_ins {op : LOp} (hop : notMap op = true) (hn : ∀ k, ins S.n k = none) : stepOp P fr (addIns ins S) op = (stepOp P fr S op).map (mapOut (addIns ins)) := by
  cases op with
  | mins m k x => cases hop
  | mget z m k => cases hop
  | box t x => simp only [stepOp]; split <;> simp [mapOut, n_addIns, addIns_push hn]
  | alloc t cs => simp [stepOp, mapOut, n_addIns, addIns_push hn]
  | mkmap => simp [stepOp, mapOut, n_addIns, addIns_push hn]
  | brow t s xs => simp only [stepOp]; cases rowsA s fr xs <;> simp [mapOut, n_addIns, addIns_push hn]
  | load ag n x => simp only [stepOp, deref_ins]; split <;> (try split) <;> rfl
  | store n p x =>
    simp only [stepOp, putRef_ins]
    split
    · split
      · cases putRef S (ev fr p) _ <;> rfl
      · rfl
    · rfl
  | bin op x y =>
    simp only [stepOp]
    unfold abin
    split
    · split
      · cases ashift .shl _ _ _ <;> rfl
      · cases ashift .shr _ _ _ <;> rfl
      · split
        · cases abinI _ _ _ _ <;> rfl
        · rfl
    · unfold abinS; split <;> rfl
    · rfl
  | cvt c x =>
    cases c <;> simp only [stepOp, elems_ins]
    · split <;> rfl
    · split
      · cases bytesOf _ <;> rfl
      · rfl
    · split
      · simp [mapOut, n_addIns, addIns_push hn]
      · rfl
    · split <;> rfl
  | iaddr s x i =>
    simp only [stepOp, get_addIns]
    split
    · split
      · split
        · split
          · split <;> rfl
          · rfl
        · rename_i l off len _
          cases h : S.get l with
          | none => rfl
          | some o => cases o <;> simp only [insO] <;> first | rfl | (split <;> rfl)
        · rfl
      · rfl
    · rfl
  | slc s x lo hi =>
    simp only [stepOp, get_addIns]
    split
    · split
      · split
        · split <;> rfl
        · rfl
      · rfl
    · rename_i r off len _
      cases h : S.get r with
      | none => rfl
      | some o => cases o <;> simp only [insO] <;> first | rfl | (split <;> first | rfl | (split <;> first | rfl | (split <;> rfl)))
    · rfl
  | mkslice t s bytes z n c =>
    simp only [stepOp]
    split
    · split
      · simp [mapOut, n_addIns, addIns_push hn]
      · rfl
    · rfl
  | len x =>
    simp only [stepOp, elems_ins]
    split
    · rfl
    · split <;> rfl
  | append str t s bytes x y =>
    simp only [stepOp, elemsA_ins, get_addIns]
    split
    · split
      · split
        · rfl
        · simp [mapOut, n_addIns, addIns_push hn]
      · rename_i r len _
        cases h : S.get r with
        | none => rfl
        | some o =>
          cases o <;> simp only [insO] <;> first | rfl | skip
          have e1 : addIns ins (S.set r none) = (addIns ins S).set r none := addIns_set (by simp only [noMap]) _
          simp only [Option.map_some, mapOut, n_addIns, ← e1]
          rw [← addIns_push (by simpa [Store.n_set] using hn)]
      · rfl
    · rfl
  | p2u x =>
    simp only [stepOp, get_addIns]
    split
    · rename_i l o _
      cases h : S.get l with
      | none => rfl
      | some o => cases o <;> simp only [insO] <;> first | rfl | (split <;> rfl)
    · rfl
  | u2p t n x =>
    simp only [stepOp, get_addIns]
    split
    · rename_i l _
      cases h : S.get l with
      | none => rfl
      | some o => cases o <;> simp only [insO] <;> first | rfl | (split <;> rfl)
    · rfl
  | sstr e x n =>
    simp only [stepOp, strOf_ins]
    split
    · split
      · rfl
      · simp only [Option.map_some, mapOut]; rw [addIns_set (by simp only [noMap])]
      · rfl
    · rfl
  | copyS x y =>
    simp only [stepOp, get_addIns]
    split
    · rename_i l off len _
      cases h : S.get l with
      | none => rfl
      | some o =>
        cases o with
        | row t s frz es =>
          simp only [insO]
          split
          · split
            · simp only [Option.map_some, mapOut]; rw [addIns_set (by simp only [noMap])]
            · rfl
          · rfl
        | _ => rfl
    · rfl
  | _ => first
    | (simp only [stepOp]; done)
    | (simp only [stepOp]; rfl)
    | (simp only [stepOp]; split <;> rfl)
    | (simp only [stepOp]; split <;> (try split) <;> rfl)
    | (simp only [stepOp]; split <;> (try split) <;> (try split) <;> rfl)
    | (simp only [stepOp]; split <;> (try split) <;> (try split) <;> (try split) <;> rfl)
    | (simp only [stepOp, Option.map_map]; congr 1; done)
    | (simp only [stepOp, Option.map_map]; rfl)
end
end Go.Proofs.YtajbeippbabhhaaGreatDoor.Eng

namespace Go.Proofs.YtajbeippbabhhaaGreatDoor.Eng
open Go

/-! ## Regions whose operations may stand in another order -/
theorem evX_congr {fr fr' : Fr} : ∀ {x : LX}, (∀ t ∈ usesX x, fr t = fr' t) → ev fr x = ev fr' x
  | .tmp t, h => h t (by simp [usesX])
  | .con _, _ => rfl
theorem evL_congr {fr fr' : Fr} : ∀ {l : List LX}, (∀ t ∈ usesL l, fr t = fr' t) → l.map (ev fr) = l.map (ev fr')
  | [], _ => rfl
  | x :: l, h => by
    simp only [usesL, List.flatMap_cons, List.mem_append] at h
    simp only [List.map_cons]
    rw [evX_congr fun t ht => h t (.inl ht), evL_congr (l := l) fun t ht => h t (.inr ht)]
theorem idxOf_congr {fr fr' : Fr} : ∀ {x : Option LX} (d : Nat), (∀ t ∈ usesO x, fr t = fr' t) → idxOf fr x d = idxOf fr' x d
  | none, _, _ => rfl
  | some x, d, h => by simp only [idxOf]; rw [evX_congr h]
theorem fillA_congr {fr fr' : Fr} : ∀ (ps : List (Nat × Nat × LX)) (cs : List AV), (∀ t ∈ ps.flatMap (fun p => usesX p.2.2), fr t = fr' t) → fillA fr cs ps = fillA fr' cs ps
  | [], cs, _ => rfl
  | (off, n, x) :: r, cs, h => by
    simp only [List.flatMap_cons, List.mem_append] at h
    simp only [fillA]
    rw [evX_congr fun t ht => h t (.inl ht)]
    split
    · split
      · split
        · exact fillA_congr r _ fun t ht => h t (.inr ht)
        · rfl
      · rfl
    · rfl
theorem rowsA_congr {fr fr' : Fr} (s : Nat) : ∀ (l : List LX), (∀ t ∈ usesL l, fr t = fr' t) → rowsA s fr l = rowsA s fr' l
  | [], _ => rfl
  | x :: l, h => by
    simp only [usesL, List.flatMap_cons, List.mem_append] at h
    simp only [rowsA]
    rw [evX_congr fun t ht => h t (.inl ht), rowsA_congr s l fun t ht => h t (.inr ht)]

theorem stepOp_congr {P : Program} {fr fr' : Fr} {S : Store} {op : LOp} (h : ∀ t ∈ uses op, fr t = fr' t) : stepOp P fr S op = stepOp P fr' S op := by
  cases op with
  | raw o => simp only [stepOp]
  | alloc t cs => simp only [stepOp]
  | call f args => simp only [uses] at h; simp only [stepOp, evL_congr h]
  | mkfn f args => simp only [uses] at h; simp only [stepOp, evL_congr h]
  | bslice t s xs => simp only [uses] at h; simp only [stepOp, rowsA_congr s xs h]
  | brow t s xs => simp only [uses] at h; simp only [stepOp, rowsA_congr s xs h]
  | build z ps => simp only [uses] at h; simp only [stepOp, fillA_congr ps z h]
  | callv x args =>
    simp only [uses, List.mem_append] at h
    simp only [stepOp, evX_congr fun t ht => h t (.inl ht), evL_congr fun t ht => h t (.inr ht)]
  | slcS x lo hi =>
    simp only [uses, List.mem_append] at h
    simp only [stepOp, evX_congr fun t ht => h t (.inl ht), idxOf_congr _ fun t ht => h t (.inr (.inl ht)), idxOf_congr _ fun t ht => h t (.inr (.inr ht))]
  | slc s x lo hi =>
    simp only [uses, List.mem_append] at h
    simp only [stepOp, evX_congr fun t ht => h t (.inl ht), idxOf_congr _ fun t ht => h t (.inr (.inl ht)), idxOf_congr _ fun t ht => h t (.inr (.inr ht))]
  | mkmap => simp only [stepOp]
  | mins m k x =>
    simp only [uses, List.mem_append] at h
    simp only [stepOp, evX_congr fun t ht => h t (.inl ht), evX_congr fun t ht => h t (.inr (.inl ht)), evX_congr fun t ht => h t (.inr (.inr ht))]
  | pick c a b =>
    simp only [uses, List.mem_append] at h
    simp only [stepOp, evX_congr fun t ht => h t (.inl ht), evX_congr fun t ht => h t (.inr (.inl ht)), evX_congr fun t ht => h t (.inr (.inr ht))]
  | _ =>
    first
    | (simp only [uses] at h; simp only [stepOp, evX_congr h]; done)
    | (simp only [uses, List.mem_append] at h; simp only [stepOp, evX_congr fun t ht => h t (.inl ht), evX_congr fun t ht => h t (.inr ht)]; done)

theorem Says.congr {P : Program} {fr fr' : Fr} {S : Store} {op : LOp} {v : AV} (h : ∀ t ∈ uses op, fr t = fr' t) (hs : Says P fr S op v) : Says P fr' S op v := by
  unfold Says at *
  rw [← stepOp_congr h]; exact hs

theorem says_sound {ow : Bool} {P : Program} {o : Oper} {a : Act} {μ : Mu} {S : Store} {w : World} {fr : Fr} {lo : LOp} {v : AV} (hr : Repr μ S w) (hf : FrRep μ (Mut μ S) w fr a) (hl : lowerOp ow P o.op = some lo) (hi : isIns lo = false) (hs : Says P fr S lo v) :
    OpOk P o a μ S w (fun u S' => u = v ∧ S' = S) (fun _ _ => False) := by
  unfold Says at hs
  split at hs
  · rename_i u h; exact op_sound hr hf hl h ⟨hs, rfl⟩
  · rename_i p g u S' h; exact op_sound hr hf hl h ⟨hs.1, fun _ => hs.2⟩
  · rename_i f args h
    have := hs (fun _ _ => none) (fun _ => rfl)
    rw [addIns_none (fun _ _ => rfl)] at this
    exact op_sound hr hf hl h (this.mono fun r S' ⟨h1, h2⟩ => by subst h1; exact ⟨rfl, h2⟩)
  · rw [hi] at hs; cases hs.1
  · exact hs.elim

/-- What a mover gives. -/
def OutM : Out → AV → Store → Prop
  | .st u S', v, T => u = v ∧ S' = T
  | .asks p _ u S', v, T => p ∧ u = v ∧ S' = T
  | _, _, _ => False

/-! ### What one walk shows of all -/
structure Entry where
  v : AV
  act : Bool
  fr : Fr

structure Fact (P : Program) (frE : Fr) (H : Nat → Store) (m : Nat) (d : DOp) (e : Entry) (r : Nat) : Prop where
  dst : ∀ t, d.dst = some t → frE t = e.v
  guard : (d.guard = none ∧ e.act = true) ∨ ∃ g want, d.guard = some (g, want) ∧ ((∃ b, e.fr g = .bool b ∧ e.act = (b == want)) ∨ (e.fr g = .und ∧ e.act = false))
  off : e.act = false → e.v = .und ∧ d.eff = false
  says : e.act = true → d.eff = false → ∀ c, r ≤ c + d.back → c ≤ r + d.fwd → c ≤ m → Says P e.fr (H c) d.op e.v
  moves : e.act = true → d.eff = true → ∃ out, stepOp P e.fr (H r) d.op = some out ∧ OutM out e.v (H (r + 1))

/-- What is written is written once. -/
def tidy : List DOp → Prop
  | [] => True
  | d :: l => (∀ t, d.dst = some t → ∀ x ∈ l, x.dst ≠ some t) ∧ tidy l

/-- The walk's frame at a place. -/
def wrote (l : List DOp) (p t : Nat) : Prop := ∃ q d, q < p ∧ l[q]? = some d ∧ d.dst = some t
def FrAt (l : List DOp) (fr frE : Fr) (tab : List Entry) : Prop := ∀ p e, tab[p]? = some e → ∀ t, (wrote l p t → e.fr t = frE t) ∧ (¬ wrote l p t → e.fr t = fr t)

def PendOk (P : Program) (frE : Fr) (H : Nat → Store) (k m : Nat) (x : Pend) : Prop := ∀ c, k < c → c ≤ k + x.n → c ≤ m → Says P x.fr (H c) x.op x.v

section
variable {P : Program} {K : Fr → Store → Prop}

theorem saysAll_spec {fr : Fr} {op : LOp} {v : AV} : ∀ (n : Nat) (l : List Store), saysAll P fr op v n l → ∀ j T, j < n → l[j]? = some T → Says P fr T op v
  | 0, _, _, _, _, h, _ => by omega
  | n + 1, [], _, j, T, _, h => by simp at h
  | n + 1, T :: l, h, j, U, hj, hl => by
    simp only [saysAll] at h
    cases j with
    | zero => simp at hl; subst hl; exact h.1
    | succ j => exact saysAll_spec n l h.2 j U (by omega) (by simpa using hl)

theorem pendAll_spec {S : Store} : ∀ (l : List Pend), pendAll P S l → ∀ x ∈ l, 0 < x.n → Says P x.fr S x.op x.v
  | [], _, x, hx, _ => by simp at hx
  | ⟨fr, op, v, 0⟩ :: l, h, x, hx, hn => by
    simp only [pendAll] at h
    rcases List.mem_cons.1 hx with rfl | hx
    · simp at hn
    · exact pendAll_spec l h x hx hn
  | ⟨fr, op, v, n + 1⟩ :: l, h, x, hx, hn => by
    simp only [pendAll] at h
    rcases List.mem_cons.1 hx with rfl | hx
    · exact h.1
    · exact pendAll_spec l h.2 x hx hn

theorem pendNext_spec : ∀ (l : List Pend) (x : Pend), x ∈ l → 0 < x.n → { x with n := x.n - 1 } ∈ pendNext l
  | [], x, hx, _ => by simp at hx
  | ⟨fr, op, v, 0⟩ :: l, x, hx, hn => by
    rcases List.mem_cons.1 hx with rfl | hx
    · simp at hn
    · simp only [pendNext]; exact pendNext_spec l x hx hn
  | ⟨fr, op, v, n + 1⟩ :: l, x, hx, hn => by
    simp only [pendNext]
    rcases List.mem_cons.1 hx with rfl | hx
    · simp
    · exact List.mem_cons_of_mem _ (pendNext_spec l x hx hn)

theorem addPend_mem {fr : Fr} {op : LOp} {v : AV} {n : Nat} {l : List Pend} (x : Pend) (h : x ∈ l) : x ∈ addPend fr op v n l := by
  cases n with
  | zero => exact h
  | succ n => exact List.mem_cons_of_mem _ h
theorem addPend_self {fr : Fr} {op : LOp} {v : AV} {n : Nat} {l : List Pend} (h : 0 < n) : (⟨fr, op, v, n⟩ : Pend) ∈ addPend fr op v n l := by
  cases n with
  | zero => omega
  | succ n => simp [addPend]

/-- The frames that a walk passes agree on what nobody writes. -/
def Agree (l : List DOp) (fr frE : Fr) : Prop := ∀ t, (∀ x ∈ l, x.dst ≠ some t) → frE t = fr t

theorem rank_zero (l : List DOp) : rank l 0 = 0 := by simp [rank]
theorem rank_succ (d : DOp) (l : List DOp) (p : Nat) : rank (d :: l) (p + 1) = (if d.eff then 1 else 0) + rank l p := by
  simp only [rank, List.take_succ_cons, List.filter_cons]
  split <;> simp <;> omega

/-- The walk's first step, where the operation leaves the store. -/
theorem vcD_head {d : DOp} {rest : List DOp} {fr : Fr} {S : Store} {olds : List Store} {pend : List Pend} (he : d.eff = false) (h : vcD P K (d :: rest) fr S olds pend) :
    (∃ v, Says P fr S d.op v ∧ saysAll P fr d.op v d.back olds ∧ vcD P K rest (putF fr d.dst v) S olds (addPend fr d.op v d.fwd pend) ∧ (d.guard = none ∨ ∃ g want, d.guard = some (g, want) ∧ fr g = .bool want)) ∨
    (vcD P K rest (putF fr d.dst .und) S olds pend ∧ ∃ g want, d.guard = some (g, want) ∧ (fr g = .und ∨ fr g = .bool (!want))) := by
  obtain ⟨dst, guard, op, eff, b, f⟩ := d
  simp only at he
  subst he
  have plain : ∀ (hg : guard = none ∨ ∃ g want, guard = some (g, want) ∧ fr g = .bool want), vcDOut P fr S olds op b (fun v => vcD P K rest (putF fr dst v) S olds (addPend fr op v f pend)) (stepOp P fr S op) →
      ∃ v, Says P fr S op v ∧ saysAll P fr op v b olds ∧ vcD P K rest (putF fr dst v) S olds (addPend fr op v f pend) ∧ (guard = none ∨ ∃ g want, guard = some (g, want) ∧ fr g = .bool want) := by
    intro hg h
    unfold vcDOut at h
    split at h
    · rename_i v hv; exact ⟨v, by unfold Says; rw [hv], h.1, h.2, hg⟩
    · rename_i p g v S' hv; exact ⟨v, by unfold Says; rw [hv]; exact ⟨h.1, rfl, h.2.1⟩, h.2.2.1, h.2.2.2, hg⟩
    · rename_i fn args hv; obtain ⟨v, h1, h2, h3⟩ := h; exact ⟨v, by unfold Says; rw [hv]; exact h1, h2, h3, hg⟩
    · rename_i v S' hv; exact ⟨v, by unfold Says; rw [hv]; exact ⟨h.1, rfl⟩, h.2.1, h.2.2, hg⟩
    · exact h.elim
  cases guard with
  | none => rw [vcD_val] at h; exact .inl (plain (.inl rfl) h)
  | some gw =>
    obtain ⟨g, want⟩ := gw
    rw [vcD_guard] at h
    unfold vcDGuard at h
    split at h
    · rename_i t ht
      by_cases e : t = want
      · subst e
        have h1 := h.1 rfl
        rw [upd_id ht] at h1
        exact .inl (plain (.inr ⟨g, t, rfl, ht⟩) h1)
      · have e' : t = !want := by cases t <;> cases want <;> simp_all
        have h1 := h.2 e'
        rw [upd_id (by rw [ht, e'])] at h1
        exact .inr ⟨h1, g, want, rfl, .inr (by rw [ht, e'])⟩
    · rename_i ht
      exact .inr ⟨h, g, want, rfl, .inl ht⟩
    · exact h.elim

theorem agree_put {d : DOp} {rest : List DOp} {fr frE : Fr} {v : AV} (h : Agree rest (putF fr d.dst v) frE) : Agree (d :: rest) fr frE := fun t ht => by
  rw [h t fun x hx => ht x (List.mem_cons_of_mem _ hx)]
  exact putF_ne fun u hu e => ht d (List.mem_cons_self ..) (by rw [hu, e])

theorem agree_dst {d : DOp} {rest : List DOp} {fr frE : Fr} {v : AV} (ht : tidy (d :: rest)) (h : Agree rest (putF fr d.dst v) frE) : ∀ t, d.dst = some t → frE t = v := fun t hd => by
  simp only [tidy] at ht
  rw [h t (ht.1 t hd), hd]
  simp [putF, upd_same]

theorem frAt_cons {d : DOp} {rest : List DOp} {fr frE : Fr} {v : AV} {a : Bool} {tab : List Entry} (ht : tidy (d :: rest)) (hag : Agree rest (putF fr d.dst v) frE) (h : FrAt rest (putF fr d.dst v) frE tab) : FrAt (d :: rest) fr frE (⟨v, a, fr⟩ :: tab) := by
  intro p e he t
  cases p with
  | zero =>
    simp only [List.getElem?_cons_zero, Option.some.injEq] at he
    subst he
    exact ⟨fun ⟨q, _, hq, _⟩ => by omega, fun _ => rfl⟩
  | succ p =>
    simp only [List.getElem?_cons_succ] at he
    obtain ⟨h1, h2⟩ := h p e he t
    by_cases hw : wrote rest p t
    · obtain ⟨q, x, hq, hx, hxt⟩ := hw
      exact ⟨fun _ => h1 ⟨q, x, hq, hx, hxt⟩, fun hn => absurd ⟨q + 1, x, by omega, by simpa using hx, hxt⟩ hn⟩
    · have h3 := h2 hw
      by_cases hd : d.dst = some t
      · refine ⟨fun _ => ?_, fun hn => absurd ⟨0, d, by omega, rfl, hd⟩ hn⟩
        rw [h3, agree_dst ht hag t hd, hd]
        simp [putF, upd_same]
      · refine ⟨fun ⟨q, x, hq, hx, hxt⟩ => ?_, fun _ => ?_⟩
        · cases q with
          | zero => simp at hx; subst hx; exact absurd hxt hd
          | succ q => exact absurd ⟨q, x, by omega, by simpa using hx, hxt⟩ hw
        · rw [h3]
          exact putF_ne fun u hu e => hd (by rw [hu, e])

theorem vcD_table : ∀ (l : List DOp) (fr : Fr) (S : Store) (olds : List Store) (pend : List Pend) (k : Nat) (H0 : Nat → Store),
    tidy l → vcD P K l fr S olds pend → H0 k = S → (∀ j T, olds[j]? = some T → j < k ∧ T = H0 (k - 1 - j)) → olds.length = k →
    ∃ (tab : List Entry) (H : Nat → Store) (frE : Fr), tab.length = l.length ∧ (∀ c, c ≤ k → H c = H0 c) ∧ K frE (H (k + rank l l.length)) ∧ Agree l fr frE ∧ FrAt l fr frE tab ∧
      (∀ p d e, l[p]? = some d → tab[p]? = some e → Fact P frE H (k + rank l l.length) d e (k + rank l p)) ∧
      (∀ x ∈ pend, PendOk P frE H k (k + rank l l.length) x)
  | [], fr, S, olds, pend, k, H0, ht, h, hk, ho, hl => by
    simp only [vcD] at h
    refine ⟨[], H0, fr, rfl, fun _ _ => rfl, ?_, fun t _ => rfl, fun p e he => by simp at he, fun p d e hd => by simp at hd, fun x hx c h1 h2 h3 => ?_⟩
    · simp only [List.length_nil, rank_zero, Nat.add_zero, hk]; exact h
    · simp only [List.length_nil, rank_zero, Nat.add_zero] at h3; omega
  | d :: rest, fr, S, olds, pend, k, H0, ht, h, hk, ho, hl => by
    have htr : tidy rest := by simp only [tidy] at ht; exact ht.2
    cases heff : d.eff with
    | false =>
      have hrk : ∀ p, rank (d :: rest) (p + 1) = rank rest p := fun p => by rw [rank_succ, heff]; simp
      rcases vcD_head heff h with ⟨v, hs, hall, hv, hg⟩ | ⟨hv, hg⟩
      · obtain ⟨tab, H, frE, h1, h2, h3, h4, hfa, h5, h6⟩ := vcD_table rest _ S olds _ k H0 htr hv hk ho hl
        have hag := agree_put h4
        refine ⟨⟨v, true, fr⟩ :: tab, H, frE, by simp [h1], h2, by rw [List.length_cons, hrk]; exact h3, hag, frAt_cons ht h4 hfa, fun p d' e hd he => ?_, fun x hx => by rw [List.length_cons, hrk]; exact h6 x (addPend_mem x hx)⟩
        rw [List.length_cons, hrk]
        cases p with
        | zero =>
          simp only [List.getElem?_cons_zero, Option.some.injEq] at hd he
          subst hd; subst he
          simp only [rank_zero, Nat.add_zero]
          refine ⟨agree_dst ht h4, ?_, fun h => (by cases h), fun _ _ c c1 c2 c3 => ?_, fun _ h => (by rw [heff] at h; cases h)⟩
          · rcases hg with hg | ⟨g, want, hg, hgv⟩
            · exact .inl ⟨hg, rfl⟩
            · exact .inr ⟨g, want, hg, .inl ⟨want, hgv, by simp⟩⟩
          · rcases Nat.lt_trichotomy c k with hc | hc | hc
            · have hj : k - 1 - c < olds.length := by omega
              obtain ⟨T, hT⟩ : ∃ T, olds[k - 1 - c]? = some T := ⟨_, List.getElem?_eq_getElem hj⟩
              have := saysAll_spec _ _ hall (k - 1 - c) T (by omega) hT
              rw [(ho _ _ hT).2] at this
              have e : k - 1 - (k - 1 - c) = c := by omega
              rw [e] at this
              rw [h2 c (by omega)]; exact this
            · subst hc; rw [h2 c (Nat.le_refl _), hk]; exact hs
            · exact h6 ⟨fr, d.op, v, d.fwd⟩ (addPend_self (by omega)) c hc c2 c3
        | succ p =>
          simp only [List.getElem?_cons_succ] at hd he
          rw [hrk]
          exact h5 p d' e hd he
      · obtain ⟨tab, H, frE, h1, h2, h3, h4, hfa, h5, h6⟩ := vcD_table rest _ S olds _ k H0 htr hv hk ho hl
        have hag := agree_put h4
        refine ⟨⟨.und, false, fr⟩ :: tab, H, frE, by simp [h1], h2, by rw [List.length_cons, hrk]; exact h3, hag, frAt_cons ht h4 hfa, fun p d' e hd he => ?_, fun x hx => by rw [List.length_cons, hrk]; exact h6 x hx⟩
        rw [List.length_cons, hrk]
        cases p with
        | zero =>
          simp only [List.getElem?_cons_zero, Option.some.injEq] at hd he
          subst hd; subst he
          refine ⟨agree_dst ht h4, ?_, fun _ => ⟨rfl, heff⟩, fun h => (by cases h), fun h => (by cases h)⟩
          obtain ⟨g, want, hg, hgv⟩ := hg
          refine .inr ⟨g, want, hg, ?_⟩
          rcases hgv with hgv | hgv
          · exact .inr ⟨hgv, rfl⟩
          · exact .inl ⟨!want, hgv, by cases want <;> rfl⟩
        | succ p =>
          simp only [List.getElem?_cons_succ] at hd he
          rw [hrk]
          exact h5 p d' e hd he
    | true =>
      have hrk : ∀ p, rank (d :: rest) (p + 1) = 1 + rank rest p := fun p => by rw [rank_succ, heff]; simp
      have hstep : ∃ out v S', d.guard = none ∧ stepOp P fr S d.op = some out ∧ OutM out v S' ∧ pendAll P S' pend ∧ vcD P K rest (putF fr d.dst v) S' (S :: olds) (pendNext pend) := by
        obtain ⟨dst, guard, op, eff, b, f⟩ := d
        simp only at heff
        subst heff
        cases guard with
        | none =>
          rw [vcD_eff] at h
          unfold vcDEff at h
          split at h
          · rename_i v S' hv; exact ⟨_, v, S', rfl, hv, ⟨rfl, rfl⟩, h.1, h.2⟩
          · rename_i p g v S' hv; exact ⟨_, v, S', rfl, hv, ⟨h.1, rfl, rfl⟩, h.2.1, h.2.2⟩
          · exact h.elim
        | some gw => obtain ⟨g, want⟩ := gw; simp only [vcD] at h
      obtain ⟨out, v, S', hg, hso, hok, hp, hv⟩ := hstep
      obtain ⟨tab, H, frE, h1, h2, h3, h4, hfa, h5, h6⟩ := vcD_table rest _ S' (S :: olds) (pendNext pend) (k + 1) (fun c => if c ≤ k then H0 c else S') htr hv (by rw [if_neg (by omega)]) (fun j T hj => by
        cases j with
        | zero => simp at hj; subst hj; exact ⟨by omega, by rw [if_pos (by omega), ← hk]; rfl⟩
        | succ j =>
          simp only [List.getElem?_cons_succ] at hj
          obtain ⟨a1, a2⟩ := ho j T hj
          refine ⟨by omega, ?_⟩
          rw [if_pos (by omega), a2]
          congr 1
          omega) (by simp [hl])
      have hag := agree_put h4
      have hH : ∀ c, c ≤ k → H c = H0 c := fun c hc => by rw [h2 c (by omega), if_pos hc]
      have hH1 : H (k + 1) = S' := by rw [h2 (k + 1) (Nat.le_refl _), if_neg (by omega)]
      have hm : k + rank (d :: rest) (d :: rest).length = k + 1 + rank rest rest.length := by rw [List.length_cons, hrk]; omega
      rw [hm]
      refine ⟨⟨v, true, fr⟩ :: tab, H, frE, by simp [h1], hH, h3, hag, frAt_cons ht h4 hfa, fun p d' e hd he => ?_, fun x hx c c1 c2 c3 => ?_⟩
      · cases p with
        | zero =>
          simp only [List.getElem?_cons_zero, Option.some.injEq] at hd he
          subst hd; subst he
          simp only [rank_zero, Nat.add_zero]
          refine ⟨agree_dst ht h4, .inl ⟨hg, rfl⟩, fun h => (by cases h), fun _ h => (by rw [heff] at h; cases h), fun _ _ => ?_⟩
          refine ⟨out, ?_, ?_⟩
          · rw [hH k (Nat.le_refl _), hk]; exact hso
          · rw [hH1]; exact hok
        | succ p =>
          simp only [List.getElem?_cons_succ] at hd he
          rw [hrk, ← Nat.add_assoc]
          exact h5 p d' e hd he
      · by_cases e : c = k + 1
        · subst e
          rw [hH1]
          exact pendAll_spec _ hp x hx (by omega)
        · exact h6 { x with n := x.n - 1 } (pendNext_spec _ x hx (by omega)) c (by omega) (by simp only; omega) c3
end
end Go.Proofs.YtajbeippbabhhaaGreatDoor.Eng

namespace Go.Proofs.YtajbeippbabhhaaGreatDoor.Eng
open Go

section
variable {ow : List Nat} {P : Program} {n : Nat} {ops : Array Oper}

theorem lowerEach_spec : ∀ (os : List Oper) (xs : List (Option Nat × Option (Nat × Bool) × LOp)), lowerEach ow P n ops os = some xs →
    xs.length = os.length ∧ ∀ (i : Nat) (o : Oper), os[i]? = some o → ∃ g lo, xs[i]? = some (o.dst, g, lo) ∧ lowerG n ops o.guard = some g ∧ lowerOp (isOw ow o.dst) P o.op = some lo ∧ dstOk n o.dst = true
  | [], xs, h => by simp only [lowerEach, Option.some.injEq] at h; subst h; exact ⟨rfl, fun i o h => by simp at h⟩
  | o :: os, xs, h => by
    simp only [lowerEach] at h
    split at h
    · rename_i g lo l h1 h2 h3
      split at h
      · rename_i hd
        cases h
        obtain ⟨a1, a2⟩ := lowerEach_spec os l h3
        refine ⟨by simp [a1], fun i o' ho => ?_⟩
        cases i with
        | zero => simp at ho; subst ho; exact ⟨g, lo, by simp, h1, h2, hd⟩
        | succ i => simp only [List.getElem?_cons_succ] at ho ⊢; exact a2 i o' ho
      · cases h
    · cases h

theorem mkD_spec (all : List Oper) (los : List LOp) : ∀ (os : List Oper) (xs : List (Option Nat × Option (Nat × Bool) × LOp)) (k : Nat), xs.length = os.length →
    (mkD all los k os xs).length = os.length ∧ ∀ (i : Nat) (x : Option Nat × Option (Nat × Bool) × LOp), xs[i]? = some x → ∃ d, (mkD all los k os xs)[i]? = some d ∧ d.dst = x.1 ∧ d.guard = x.2.1 ∧ d.op = x.2.2
  | [], [], k, _ => by simp [mkD]
  | [], _ :: _, k, h => by simp at h
  | _ :: _, [], k, h => by simp at h
  | o :: os, (d, g, lo) :: xs, k, h => by
    obtain ⟨a1, a2⟩ := mkD_spec all los os xs (k + 1) (by simpa using h)
    simp only [mkD, List.length_cons]
    refine ⟨by rw [a1], fun i x hx => ?_⟩
    cases i with
    | zero => simp at hx; subst hx; exact ⟨_, by simp; rfl, rfl, rfl, rfl⟩
    | succ i => simp only [List.getElem?_cons_succ] at hx ⊢; exact a2 i x hx

/-- What the check says. -/
structure Plan (ow : List Nat) (P : Program) (n : Nat) (ops : Array Oper) (l : List DOp) : Prop where
  ins : ∀ (i : Nat) (d : DOp) (o : Oper), l[i]? = some d → ops[i]? = some o → isIns d.op = true → d.dst = none ∧ d.guard = none ∧ d.eff = false ∧ ∀ t ∈ Eng.uses d.op, ∀ (j : Nat) (d' : DOp), l[j]? = some d' → d'.dst = some t → j ∈ predsOf o
  gets : (∀ d ∈ l, isIns d.op = false) ∨ ∀ d ∈ l, isGet d.op = false
  len : l.length = ops.size
  at' : ∀ (i : Nat) (o : Oper), ops[i]? = some o → ∃ d : DOp, l[i]? = some d ∧ d.dst = o.dst ∧ lowerG n ops o.guard = some d.guard ∧ lowerOp (isOw ow o.dst) P o.op = some d.op ∧ dstOk n o.dst = true
  before : ∀ (i : Nat) (o : Oper), ops[i]? = some o → ∀ j ∈ predsOf o, j < i
  once : ∀ (i : Nat) (d : DOp), l[i]? = some d → ∀ t, d.dst = some t → ∀ (j : Nat) (d' : DOp), l[j]? = some d' → d'.dst = some t → j = i
  uses : ∀ (i : Nat) (d : DOp) (o : Oper), l[i]? = some d → ops[i]? = some o → ∀ t, (t ∈ Eng.uses d.op ∨ ∃ want, d.guard = some (t, want)) → ∀ (j : Nat) (d' : DOp), l[j]? = some d' → d'.dst = some t → j ∈ predsOf o ∨ ∃ oj, ops[j]? = some oj ∧ i ∈ predsOf oj
  effs : ∀ (i : Nat) (d : DOp) (o : Oper), l[i]? = some d → ops[i]? = some o → d.eff = true → ∀ (e : Nat) (de : DOp), l[e]? = some de → de.eff = true → rank l e + 1 = rank l i → e ∈ predsOf o
  back : ∀ (i : Nat) (d : DOp) (o : Oper), l[i]? = some d → ops[i]? = some o → d.eff = false → ∀ (e : Nat) (de : DOp), l[e]? = some de → de.eff = true → rank l e + d.back + 1 = rank l i → e ∈ predsOf o
  fwd : ∀ (i : Nat) (d : DOp) (o : Oper), l[i]? = some d → ops[i]? = some o → d.eff = false → ∀ (e : Nat) (de : DOp) (oe : Oper), l[e]? = some de → ops[e]? = some oe → de.eff = true → rank l i + d.fwd = rank l e → i ∈ predsOf oe

theorem plan_of {l : List DOp} (h : lowerD ow P n ops = some l) : Plan ow P n ops l := by
  unfold lowerD at h
  split at h
  · rename_i xs hx
    obtain ⟨a1, a2⟩ := lowerEach_spec _ _ hx
    obtain ⟨b1, b2⟩ := mkD_spec ops.toList (xs.map (·.2.2)) ops.toList xs 0 a1
    split at h
    · rename_i hok
      cases h
      rw [Bool.and_eq_true] at hok
      obtain ⟨hng, hok⟩ := hok
      generalize hl : mkD ops.toList (xs.map (·.2.2)) 0 ops.toList xs = l at *
      have hlen : l.length = ops.size := by rw [b1]; simp
      have key := hok
      unfold drawOk at key
      simp only [List.all_eq_true, List.mem_range] at key
      have atl : ∀ i d, l[i]? = some d → i < l.length := fun i d h => get_lt h
      have opsl : ∀ (i : Nat) (o : Oper), ops[i]? = some o → ops.toList[i]? = some o := fun i o h => (by rw [Array.getElem?_toList]; exact h)
      have K : ∀ i d o, l[i]? = some d → ops[i]? = some o → _ := fun i d o hd ho => by
        have := key i (atl i d hd)
        rw [hd, opsl i o ho] at this
        simp only [Bool.and_eq_true, List.all_eq_true, List.mem_range, decide_eq_true_eq] at this
        exact this
      refine ⟨fun i d o hd ho hi => ?_, ?_, hlen, fun i o ho => ?_, fun i o ho j hj => ?_, fun i d hd t ht j d' hd' ht' => ?_, fun i d o hd ho t ht j d' hd' ht' => ?_, fun i d o hd ho hdeff e de hde heff hr => ?_, fun i d o hd ho hdeff e de hde heff hr => ?_, fun i d o hd ho hdeff e de oe hde hoe heff hr => ?_⟩
      · have := (K i d o hd ho).1.1.1.1
        simp only [hi, Bool.not_true, Bool.false_or, Bool.and_eq_true, Option.isNone_iff_eq_none, Bool.not_eq_true', List.all_eq_true, List.mem_range] at this
        obtain ⟨⟨⟨h1, h2⟩, h3⟩, h4⟩ := this
        refine ⟨h1, h2, h3, fun t ht j d' hd' ht' => ?_⟩
        have := h4 t ht j (atl j d' hd')
        rw [hd'] at this
        simp only [Bool.or_eq_true, decide_eq_true_eq, List.contains_iff_mem] at this
        rcases this with h | h
        · exact absurd ht' h
        · exact h
      · unfold noGet at hng
        simp only [Bool.or_eq_true, List.all_eq_true, Bool.not_eq_true'] at hng
        exact hng
      · obtain ⟨g, lo, c1, c2, c3, c4⟩ := a2 i o (opsl i o ho)
        obtain ⟨d, d1, d2, d3, d4⟩ := b2 i _ c1
        exact ⟨d, d1, d2, by rw [d3]; exact c2, by rw [d4]; exact c3, c4⟩
      · obtain ⟨g, lo, c1, c2, c3, c4⟩ := a2 i o (opsl i o ho)
        obtain ⟨d, d1, d2, d3, d4⟩ := b2 i _ c1
        exact (K i d o d1 ho).1.1.1.2 j hj
      · obtain ⟨o, ho⟩ : ∃ o, ops[i]? = some o := ⟨_, Array.getElem?_eq_getElem (by rw [← hlen]; exact atl i d hd)⟩
        have := (K i d o hd ho).1.1.2
        rw [ht] at this
        simp only [List.all_eq_true, List.mem_range] at this
        have := this j (atl j d' hd')
        rw [hd'] at this
        simp only [Bool.or_eq_true, decide_eq_true_eq] at this
        rcases this with h | h
        · exact absurd ht' h
        · exact h
      · have := (K i d o hd ho).1.2 t (by
          rcases ht with ht | ⟨want, ht⟩
          · split
            · exact List.mem_cons_of_mem _ ht
            · exact ht
          · rw [ht]; exact List.mem_cons_self ..) j (atl j d' hd')
        rw [hd'] at this
        simp only [Bool.or_eq_true, decide_eq_true_eq, List.contains_iff_mem] at this
        rcases this with (h | h) | h
        · exact absurd ht' h
        · exact .inl h
        · obtain ⟨oj, hoj⟩ : ∃ o, ops[j]? = some o := ⟨_, Array.getElem?_eq_getElem (by rw [← hlen]; exact atl j d' hd')⟩
          rw [opsl j oj hoj] at h
          exact .inr ⟨oj, hoj, by simpa using h⟩
      · obtain ⟨oe, hoe⟩ : ∃ o, ops[e]? = some o := ⟨_, Array.getElem?_eq_getElem (by rw [← hlen]; exact atl e de hde)⟩
        have := (K i d o hd ho).2 e (atl e de hde)
        rw [hde, opsl e oe hoe] at this
        simp only [heff, hdeff, if_true, Bool.not_true, Bool.false_or, Bool.or_eq_true, Bool.not_eq_true', decide_eq_false_iff_not, List.contains_iff_mem] at this
        rcases this with h | h
        · exact absurd hr h
        · exact h
      · obtain ⟨oe, hoe⟩ : ∃ o, ops[e]? = some o := ⟨_, Array.getElem?_eq_getElem (by rw [← hlen]; exact atl e de hde)⟩
        have := (K i d o hd ho).2 e (atl e de hde)
        rw [hde, opsl e oe hoe] at this
        simp only [heff, hdeff, Bool.false_eq_true, if_false, Bool.not_true, Bool.false_or, Bool.and_eq_true, Bool.or_eq_true, Bool.not_eq_true', decide_eq_false_iff_not, List.contains_iff_mem] at this
        rcases this.1 with h | h
        · exact absurd hr h
        · exact h
      · have := (K i d o hd ho).2 e (atl e de hde)
        rw [hde, opsl e oe hoe] at this
        simp only [heff, hdeff, Bool.false_eq_true, if_false, Bool.not_true, Bool.false_or, Bool.and_eq_true, Bool.or_eq_true, Bool.not_eq_true', decide_eq_false_iff_not, List.contains_iff_mem] at this
        rcases this.2 with h | h
        · exact absurd hr h
        · exact h
    · cases h
  · cases h
end

theorem rank_at (l : List DOp) (i : Nat) : rank l (i + 1) = rank l i + (match l[i]? with | some d => if d.eff then 1 else 0 | none => 0) := by
  unfold rank
  rw [List.take_add_one]
  cases h : l[i]? with
  | none => simp
  | some d => cases hd : d.eff <;> simp [List.filter_append, hd]
theorem rank_mono (l : List DOp) {i j : Nat} (h : i ≤ j) : rank l i ≤ rank l j := by
  induction h with
  | refl => exact Nat.le_refl _
  | step _ ih => rw [rank_at]; omega
theorem rank_lt (l : List DOp) {i j : Nat} {d : DOp} (hd : l[i]? = some d) (he : d.eff = true) (h : i < j) : rank l i < rank l j := by
  have := rank_mono l (show i + 1 ≤ j from h)
  rw [rank_at, hd] at this
  simp only [he, if_true] at this
  omega
theorem rank_inj (l : List DOp) {i j : Nat} {d d' : DOp} (hd : l[i]? = some d) (he : d.eff = true) (hd' : l[j]? = some d') (he' : d'.eff = true) (h : rank l i = rank l j) : i = j := by
  rcases Nat.lt_trichotomy i j with h1 | h1 | h1
  · have := rank_lt l hd he h1; omega
  · exact h1
  · have := rank_lt l hd' he' h1; omega
theorem rank_surj (l : List DOp) : ∀ (j c : Nat), c < rank l j → ∃ e d, e < j ∧ l[e]? = some d ∧ d.eff = true ∧ rank l e = c
  | 0, c, h => by simp [rank] at h
  | j + 1, c, h => by
    rw [rank_at] at h
    by_cases h1 : c < rank l j
    · obtain ⟨e, d, a1, a2⟩ := rank_surj l j c h1
      exact ⟨e, d, by omega, a2⟩
    · split at h
      · rename_i d hd
        split at h
        · rename_i he; exact ⟨j, d, by omega, hd, he, by omega⟩
        · omega
      · omega

theorem tidy_of {ow : List Nat} {P : Program} {n : Nat} {ops : Array Oper} {l : List DOp} (h : Plan ow P n ops l) : tidy l := by
  have opAt : ∀ i d, l[i]? = some d → ∃ o, ops[i]? = some o := fun i d hd => ⟨_, Array.getElem?_eq_getElem (by rw [← h.len]; exact get_lt hd)⟩
  have key : ∀ (s : List DOp) (k : Nat), (∀ j, s[j]? = l[k + j]?) → tidy s := by
    intro s
    induction s with
    | nil => intro k _; simp only [tidy]
    | cons d s ih =>
      intro k hs
      have hd : l[k]? = some d := by simpa using (hs 0).symm
      obtain ⟨o, ho⟩ := opAt k d hd
      have hrest : ∀ x ∈ s, ∃ j, k < j ∧ l[j]? = some x := fun x hx => by
        obtain ⟨j, hj⟩ := List.getElem?_of_mem hx
        exact ⟨k + (j + 1), by omega, by rw [← hs (j + 1)]; simpa using hj⟩
      simp only [tidy]
      refine ⟨fun t ht x hx e => ?_, ih (k + 1) fun j => by rw [show k + 1 + j = k + (j + 1) by omega, ← hs (j + 1)]; simp⟩
      obtain ⟨j, hj, hx⟩ := hrest x hx
      have := h.once k d hd t ht j x hx e; omega
  exact key l 0 fun j => by simp
end Go.Proofs.YtajbeippbabhhaaGreatDoor.Eng

namespace Go.Proofs.YtajbeippbabhhaaGreatDoor.Eng
open Go

/-! ### Entries put into maps -/
def insAtF (fr : Fr) (d : DOp) : Option (Nat × Int × AV) := match d.op with
  | .mins m k x => match ev fr m, keyOf (ev fr k) with
    | .mp l, some n => some (l, n, ev fr x)
    | _, _ => none
  | _ => none
theorem insAtF_ins {fr : Fr} {d : DOp} {e : Nat × Int × AV} (h : insAtF fr d = some e) : isIns d.op = true := by
  unfold insAtF at h
  split at h
  · rename_i hop; rw [hop]; rfl
  · cases h
theorem mapAt_eq {S : Store} {x : AV} {l : Nat} {f : Int → Option AV} (h : mapAt S x = some (l, f)) : x = .mp l ∧ S.get l = some (.mpo f) := by
  unfold mapAt at h
  split at h
  · split at h
    · rename_i hg; cases h; exact ⟨rfl, hg⟩
    · cases h
  · cases h
theorem minsV_eq {S : Store} {x : AV} {a : Option (Nat × (Int → Option AV))} {b : Option Int} {out : Out} (h : minsV S x a b = some out) : ∃ l f n, a = some (l, f) ∧ b = some n ∧ f n = none ∧ out = .st .und (S.set l (some (.mpo (updI f n (some x))))) := by
  unfold minsV at h
  split at h
  · rename_i l f n
    split at h
    · rename_i hf; cases h; exact ⟨l, f, n, rfl, rfl, hf, rfl⟩
    · cases h
  · cases h
theorem insO_congr {g g' : Ins} {j : Nat} (h : ∀ k, g j k = g' j k) (o : Option AObj) : insO g j o = insO g' j o := by
  have : ∀ f, insF g j f = insF g' j f := fun f => by funext k; simp only [insF, h k]
  unfold insO
  split
  · rw [this]
  · rfl
def insUpd (g : Ins) (l0 : Nat) (n : Int) (x : AV) : Ins := fun j k => if j = l0 ∧ k = n then some x else g j k
theorem insUpd_ne {g : Ins} {l0 : Nat} {n : Int} {x : AV} {j : Nat} (h : j ≠ l0) (k : Int) : insUpd g l0 n x j k = g j k := if_neg fun e => h e.1
theorem insUpd_at {g : Ins} {l0 : Nat} {n : Int} {x : AV} {j : Nat} {k : Int} {v : AV} : insUpd g l0 n x j k = some v ↔ (j = l0 ∧ k = n ∧ v = x) ∨ (¬ (j = l0 ∧ k = n) ∧ g j k = some v) := by
  unfold insUpd
  by_cases h : j = l0 ∧ k = n
  · rw [if_pos h]
    constructor
    · intro e; cases e; exact .inl ⟨h.1, h.2, rfl⟩
    · rintro (⟨_, _, e⟩ | e)
      · rw [e]
      · exact absurd h e.1
  · rw [if_neg h]
    constructor
    · intro e; exact .inr ⟨h, e⟩
    · rintro (⟨a, b, e⟩ | e)
      · exact absurd ⟨a, b⟩ h
      · exact e.2
theorem addIns_set_map {g : Ins} {S : Store} {l0 : Nat} {f : Int → Option AV} {n : Int} {x : AV} (hS : S.get l0 = some (.mpo f)) :
    (addIns g S).set l0 (some (.mpo (updI (insF g l0 f) n (some x)))) = addIns (insUpd g l0 n x) S := by
  unfold addIns Store.set
  simp only [Store.mk.injEq, and_true]
  funext j
  by_cases e : j = l0
  · subst e
    simp only [upd_same, hS, insO, Option.some.injEq, AObj.mpo.injEq]
    funext k
    by_cases ek : k = n
    · subst ek; simp [updI, insF, insUpd]
    · simp [updI, insF, insUpd, ek]
  · simp only [upd_ne _ _ e]
    exact insO_congr (fun k => (insUpd_ne e k).symm) _
theorem set_map_addIns {g : Ins} {S : Store} {l0 : Nat} {f : Int → Option AV} {n : Int} {x : AV} (hS : S.get l0 = some (.mpo f)) (hg : g l0 n = none) :
    addIns g (S.set l0 (some (.mpo (updI f n (some x))))) = addIns (insUpd g l0 n x) S := by
  unfold addIns Store.set
  simp only [Store.mk.injEq, and_true]
  funext j
  by_cases e : j = l0
  · subst e
    simp only [upd_same, hS, insO, Option.some.injEq, AObj.mpo.injEq]
    funext k
    by_cases ek : k = n
    · subst ek; simp [updI, insF, insUpd, hg]
    · simp [updI, insF, insUpd, ek]
  · simp only [upd_ne _ _ e]
    exact insO_congr (fun k => (insUpd_ne e k).symm) _

/-- All entries of a list. -/
def AllIns (l : List DOp) (fr : Fr) (g : Ins) : Prop := ∀ j k v, g j k = some v ↔ ∃ d ∈ l, insAtF fr d = some (j, k, v)
def DistIns (l : List DOp) (fr : Fr) : Prop := ∀ (i i' : Nat) (d d' : DOp) (j : Nat) (k : Int) (v v' : AV), l[i]? = some d → l[i']? = some d' → insAtF fr d = some (j, k, v) → insAtF fr d' = some (j, k, v') → i = i'
theorem fillK_spec {P : Program} {K : Fr → Store → Prop} {fr : Fr} : ∀ (l : List DOp) (S : Store), fillK P K l fr S → ∃ g, AllIns l fr g ∧ DistIns l fr ∧ K fr (addIns g S) ∧ ∀ j k v, g j k = some v → ∃ f, S.get j = some (.mpo f) ∧ f k = none
  | [], S, h => ⟨fun _ _ => none, fun j k v => by simp, fun i i' d d' j k v v' h => by simp at h, by rw [addIns_none (fun _ _ => rfl)]; exact h, fun j k v h => by cases h⟩
  | d :: l, S, h => by
    simp only [fillK] at h
    by_cases hi : isIns d.op = true
    · obtain ⟨m, k0, x, hop⟩ : ∃ m k x, d.op = .mins m k x := by
        cases hop : d.op <;> rw [hop] at hi <;> first | exact ⟨_, _, _, rfl⟩ | cases hi
      rw [hop] at h
      simp only [fillO] at h
      unfold fillD at h
      split at h
      · rename_i u S1 hm
        obtain ⟨l0, f, n, h1, h2, h3, h4⟩ := minsV_eq hm
        cases h4
        obtain ⟨e1, e2⟩ := mapAt_eq h1
        have hd : insAtF fr d = some (l0, n, ev fr x) := by simp only [insAtF, hop, e1, h2]
        obtain ⟨g, a1, a2, a3, a4⟩ := fillK_spec l _ h
        have hg : g l0 n = none := by
          cases hg : g l0 n with
          | none => rfl
          | some v =>
            obtain ⟨f', b1, b2⟩ := a4 _ _ _ hg
            rw [Store.get_set_same] at b1
            cases b1
            simp [updI] at b2
        refine ⟨insUpd g l0 n (ev fr x), fun j k v => ?_, fun i i' c c' j k v v' c1 c2 c3 c4 => ?_, by rw [← set_map_addIns e2 hg]; exact a3, fun j k v hv => ?_⟩
        · rw [insUpd_at]
          constructor
          · rintro (⟨rfl, rfl, rfl⟩ | ⟨_, b2⟩)
            · exact ⟨d, List.mem_cons_self .., hd⟩
            · obtain ⟨c, c1, c2⟩ := (a1 j k v).1 b2
              exact ⟨c, List.mem_cons_of_mem _ c1, c2⟩
          · rintro ⟨c, c1, c2⟩
            rcases List.mem_cons.1 c1 with rfl | c1
            · rw [hd] at c2; cases c2; exact .inl ⟨rfl, rfl, rfl⟩
            · have := (a1 j k v).2 ⟨c, c1, c2⟩
              refine .inr ⟨fun ⟨b1, b2⟩ => ?_, this⟩
              subst b1; subst b2; rw [hg] at this; cases this
        · have away : ∀ (q : Nat) (c : DOp) (v : AV), l[q]? = some c → insAtF fr c = some (l0, n, v) → False := fun q c v q1 q2 => by
            have := (a1 l0 n v).2 ⟨c, List.mem_of_getElem? q1, q2⟩
            rw [hg] at this; cases this
          cases i with
          | zero =>
            simp only [List.getElem?_cons_zero, Option.some.injEq] at c1
            subst c1
            rw [hd] at c3; cases c3
            cases i' with
            | zero => rfl
            | succ i' => simp only [List.getElem?_cons_succ] at c2; exact (away _ _ _ c2 c4).elim
          | succ i =>
            simp only [List.getElem?_cons_succ] at c1
            cases i' with
            | zero =>
              simp only [List.getElem?_cons_zero, Option.some.injEq] at c2
              subst c2
              rw [hd] at c4; cases c4
              exact (away _ _ _ c1 c3).elim
            | succ i' => simp only [List.getElem?_cons_succ] at c2; rw [a2 i i' c c' j k v v' c1 c2 c3 c4]
        · rcases insUpd_at.1 hv with ⟨rfl, rfl, _⟩ | ⟨b1, b2⟩
          · exact ⟨f, e2, h3⟩
          · obtain ⟨f', q1, q2⟩ := a4 j k v b2
            by_cases e : j = l0
            · subst e
              rw [Store.get_set_same] at q1
              cases q1
              refine ⟨f, e2, ?_⟩
              have : k ≠ n := fun e => b1 ⟨rfl, e⟩
              simpa [updI, this] using q2
            · rw [Store.get_set_ne _ _ e] at q1
              exact ⟨f', q1, q2⟩
      · exact h.elim
    · have hfo : fillO P fr S (fun S' => fillK P K l fr S') d.op = fillK P K l fr S := by
        cases hop : d.op <;> rw [hop] at hi <;> first | rfl | exact absurd rfl hi
      rw [hfo] at h
      have hd : insAtF fr d = none := by
        cases hx : insAtF fr d with
        | none => rfl
        | some e => exact absurd (insAtF_ins hx) hi
      obtain ⟨g, a1, a2, a3, a4⟩ := fillK_spec l S h
      refine ⟨g, fun j k v => ?_, fun i i' c c' j k v v' c1 c2 c3 c4 => ?_, a3, a4⟩
      · rw [a1]
        constructor
        · rintro ⟨c, c1, c2⟩; exact ⟨c, List.mem_cons_of_mem _ c1, c2⟩
        · rintro ⟨c, c1, c2⟩
          rcases List.mem_cons.1 c1 with rfl | c1
          · rw [hd] at c2; cases c2
          · exact ⟨c, c1, c2⟩
      · cases i with
        | zero => simp only [List.getElem?_cons_zero, Option.some.injEq] at c1; subst c1; rw [hd] at c3; cases c3
        | succ i =>
          cases i' with
          | zero => simp only [List.getElem?_cons_zero, Option.some.injEq] at c2; subst c2; rw [hd] at c4; cases c4
          | succ i' =>
            simp only [List.getElem?_cons_succ] at c1 c2
            rw [a2 i i' c c' j k v v' c1 c2 c3 c4]
theorem fillK_quiet {P : Program} {K : Fr → Store → Prop} {fr : Fr} {S : Store} : ∀ (l : List DOp), (∀ d ∈ l, isIns d.op = false) → fillK P K l fr S = K fr S
  | [], _ => rfl
  | d :: l, h => by
    have hi := h d (List.mem_cons_self ..)
    have hfo : fillO P fr S (fun S' => fillK P K l fr S') d.op = fillK P K l fr S := by
      cases hop : d.op <;> rw [hop] at hi <;> first | rfl | cases hi
    simp only [fillK, hfo]
    exact fillK_quiet l fun d hd => h d (List.mem_cons_of_mem _ hd)

theorem mapOut_none {g : Ins} (h : ∀ j k, g j k = none) (o : Option Out) : o.map (mapOut (addIns g)) = o := by
  cases o with
  | none => rfl
  | some o => cases o <;> simp only [Option.map_some, mapOut, addIns_none h]
theorem stepOp_add {P : Program} {fr : Fr} {g : Ins} {S : Store} {op : LOp} (hop : (∀ j k, g j k = none) ∨ notMap op = true) (hn : ∀ k, g S.n k = none) : stepOp P fr (addIns g S) op = (stepOp P fr S op).map (mapOut (addIns g)) := by
  rcases hop with h | h
  · rw [mapOut_none h, addIns_none h]
  · exact stepOp_ins h hn
theorem Says.add {P : Program} {fr : Fr} {g : Ins} {S : Store} {op : LOp} {v : AV} (hop : (∀ j k, g j k = none) ∨ notMap op = true) (hn : ∀ k, g S.n k = none) (h : Says P fr S op v) : Says P fr (addIns g S) op v := by
  unfold Says at *
  rw [stepOp_add hop hn]
  cases hs : stepOp P fr S op with
  | none => rw [hs] at h; exact h
  | some out =>
    rw [hs] at h
    cases out with
    | asks p q u S' => simp only [Option.map_some, mapOut] at h ⊢; exact ⟨h.1, h.2.1, by rw [h.2.2]⟩
    | call f args =>
      intro g' hg'
      rw [addIns_add]
      exact h _ fun k => by
        rw [n_addIns] at hg'
        simp only [hg' k, hn k]
    | _ => exact h

section
variable {ow : List Nat} {P : Program} {n : Nat} {ds : List Deferred} {ops : Array Oper} {l : List DOp} {μ : Mu} {S : Store} {w : World} {fr frE : Fr} {H : Nat → Store} {m : Nat} {tab : List Entry}

structure Mid (n : Nat) (ds : List Deferred) (ops : Array Oper) (l : List DOp) (μ : Mu) (S : Store) (w : World) (fr frE : Fr) (H : Nat → Store) (m : Nat) (listed : Array Bool) (a : Act) (w' : World) (fr' : Fr) (c : Nat) (μ' : Mu) (g : Ins) : Prop where
  size : listed.size = ops.size
  down : ∀ (i : Nat) (o : Oper), ops[i]? = some o → listed.getD i true = true → ∀ j ∈ predsOf o, listed.getD j true = true
  on : ∀ (i : Nat) (d : DOp) (t : Nat), l[i]? = some d → d.dst = some t → fr' t = if listed.getD i true then frE t else fr t
  off : ∀ t, (∀ (i : Nat) (d : DOp), l[i]? = some d → d.dst ≠ some t) → fr' t = fr t
  count : ∀ (e : Nat) (de : DOp), l[e]? = some de → de.eff = true → (listed.getD e true = true ↔ rank l e < c)
  le : c ≤ m
  repr : Repr μ' (addIns g (H c)) w'
  keep : Keeps μ (Mut μ S) w μ' (Mut μ' (addIns g (H c))) w'
  fr : FrRep μ' (Mut μ' (addIns g (H c))) w' fr' a
  spec : ∀ j k v, g j k = some v ↔ ∃ (i : Nat) (d : DOp), l[i]? = some d ∧ listed.getD i true = true ∧ insAtF frE d = some (j, k, v)
  named : ∀ j k v, g j k = some v → ∃ c, μ' j = some c
  tmps : a.tmps.size = n
  defers : a.defers = ds

theorem getD_lt {listed : Array Bool} {i : Nat} (h : listed.getD i true = false) : i < listed.size := by
  rcases Nat.lt_or_ge i listed.size with h' | h'
  · exact h'
  · simp [Array.getD_eq_getD_getElem?, Array.getElem?_eq_none h'] at h

theorem getD_set_self {listed : Array Bool} {i : Nat} (h : i < listed.size) : (listed.setIfInBounds i true).getD i true = true := by
  simp [Array.getD_eq_getD_getElem?, h]
theorem getD_set_other {listed : Array Bool} {i j : Nat} (h : i ≠ j) : (listed.setIfInBounds i true).getD j true = listed.getD j true := by
  simp [Array.getD_eq_getD_getElem?, h]

theorem Mid.step {listed : Array Bool} {a : Act} {w' : World} {fr' : Fr} {c : Nat} {μ' : Mu} {g g' : Ins} (plan : Plan ow P n ops l) (hm : Mid n ds ops l μ S w fr frE H m listed a w' fr' c μ' g)
    {i : Nat} {o : Oper} {d : DOp} (ho : ops[i]? = some o) (hd : l[i]? = some d) (hdst : d.dst = o.dst) (hok : dstOk n o.dst = true) (hun : listed.getD i true = false)
    (hpre : ∀ j ∈ predsOf o, listed.getD j true = true) {v : AV} {x : Value} {c' : Nat} {μ'' : Mu} {w'' : World}
    (hv : ∀ t, d.dst = some t → frE t = v) (hc : c' = if d.eff then c + 1 else c) (hrank : d.eff = true → rank l i = c ∧ c + 1 ≤ m)
    (hr : Repr μ'' (addIns g' (H c')) w'') (hk : Keeps μ' (Mut μ' (addIns g (H c))) w' μ'' (Mut μ'' (addIns g' (H c'))) w'') (hx : Rep μ'' (Mut μ'' (addIns g' (H c'))) w'' v x)
    (hspec : ∀ j k v, g' j k = some v ↔ g j k = some v ∨ insAtF frE d = some (j, k, v)) (hnamed : ∀ j k v, insAtF frE d = some (j, k, v) → ∃ c, μ' j = some c) :
    Mid n ds ops l μ S w fr frE H m (listed.setIfInBounds i true) (a.put o.dst x) w'' (putF fr' o.dst v) c' μ'' g' := by
  have hi : i < listed.size := getD_lt hun
  refine ⟨by simp [hm.size], fun j oj hoj hl k hkp => ?_, fun j dj t hdj ht => ?_, fun t ht => ?_, fun e de hde he => ?_, ?_, hr, hm.keep.trans hk, (hm.fr.keep hk).put hok hm.tmps hx, fun j k u => ?_, fun j k u hu => ?_, by rw [put_size]; exact hm.tmps, by rw [put_defers]; exact hm.defers⟩
  · by_cases e : i = k
    · subst e; exact getD_set_self hi
    · rw [getD_set_other e]
      by_cases e2 : i = j
      · subst e2; rw [ho] at hoj; cases hoj; exact hpre k hkp
      · rw [getD_set_other e2] at hl; exact hm.down j oj hoj hl k hkp
  · by_cases e : i = j
    · subst e
      rw [hd] at hdj; cases hdj
      rw [getD_set_self hi, if_pos rfl, ← hdst, ht]
      simp only [putF, upd_same]
      exact (hv t ht).symm
    · rw [getD_set_other e, putF_ne fun u hu eu => ?_]
      · exact hm.on j dj t hdj ht
      · subst eu; exact e (plan.once j dj hdj t ht i d hd (by rw [hdst, hu]))
  · rw [putF_ne fun u hu eu => ?_]
    · exact hm.off t ht
    · subst eu; exact ht i d hd (by rw [hdst, hu])
  · by_cases e1 : i = e
    · subst e1
      rw [hd] at hde; cases hde
      rw [getD_set_self hi]
      simp only [he, if_true] at hc
      have := (hrank he).1
      constructor
      · intro _; omega
      · intro _; rfl
    · rw [getD_set_other e1, hm.count e de hde he]
      cases hde' : d.eff with
      | false => simp only [hde', Bool.false_eq_true, if_false] at hc; rw [hc]
      | true =>
        simp only [hde', if_true] at hc
        have h1 := (hrank hde').1
        have : rank l e ≠ rank l i := fun h => e1 (rank_inj l hd hde' hde he h.symm)
        constructor <;> intro _ <;> omega
  · cases hde' : d.eff with
    | false => simp only [hde', Bool.false_eq_true, if_false] at hc; rw [hc]; exact hm.le
    | true => simp only [hde', if_true] at hc; rw [hc]; exact (hrank hde').2
  · rw [hspec, hm.spec]
    constructor
    · rintro (⟨q, dq, q1, q2, q3⟩ | h)
      · refine ⟨q, dq, q1, ?_, q3⟩
        by_cases e : i = q
        · subst e; exact getD_set_self hi
        · rw [getD_set_other e]; exact q2
      · exact ⟨i, d, hd, getD_set_self hi, h⟩
    · rintro ⟨q, dq, q1, q2, q3⟩
      by_cases e : i = q
      · subst e; rw [hd] at q1; cases q1; exact .inr q3
      · rw [getD_set_other e] at q2; exact .inl ⟨q, dq, q1, q2, q3⟩
  · rcases (hspec j k u).1 hu with h | h
    · obtain ⟨c0, h0⟩ := hm.named j k u h
      exact ⟨c0, hk.mu _ _ h0⟩
    · obtain ⟨c0, h0⟩ := hnamed j k u h
      exact ⟨c0, hk.mu _ _ h0⟩

theorem mem_preds {o : Oper} {j : Nat} : j ∈ predsOf o ↔ ∃ e ∈ o.after, Region.binds .any e = true ∧ e.on = j := by
  unfold predsOf
  simp only [List.mem_filterMap, Array.mem_toList_iff]
  constructor
  · rintro ⟨e, he, h⟩
    split at h
    · rename_i hb; cases h; exact ⟨e, he, hb, rfl⟩
    · cases h
  · rintro ⟨e, he, hb, rfl⟩
    exact ⟨e, he, by rw [if_pos hb]⟩

def unl (k : Nat) (listed : Array Bool) : Nat := ((List.range k).filter fun i => !listed.getD i true).length

theorem unl_set {listed : Array Bool} : ∀ (k i : Nat), listed.getD i true = false → (i < k → unl k (listed.setIfInBounds i true) + 1 = unl k listed) ∧ (k ≤ i → unl k (listed.setIfInBounds i true) = unl k listed)
  | 0, i, h => by simp [unl]
  | k + 1, i, h => by
    have hi := getD_lt h
    have e : ∀ (L : Array Bool), unl (k + 1) L = unl k L + if L.getD k true then 0 else 1 := fun L => by
      simp only [unl, List.range_succ, List.filter_append, List.length_append]
      cases hL : L.getD k true <;> (simp only [List.filter_cons, hL, List.filter_nil]; rfl)
    obtain ⟨h1, h2⟩ := unl_set k i h
    rw [e, e]
    constructor
    · intro hk
      by_cases ek : i = k
      · subst ek
        rw [getD_set_self hi, h2 (Nat.le_refl _), h]
        simp
      · rw [getD_set_other ek, ← h1 (by omega)]; omega
    · intro hk
      rw [getD_set_other (by omega), h2 (by omega)]

theorem all_of_ready {listed : Array Bool} (plan : Plan ow P n ops l) (hs : listed.size = ops.size) (h : Region.ready .any ops listed = []) : ∀ i, listed.getD i true = true := by
  intro i
  induction i using Nat.strongRecOn with
  | _ i ih =>
    cases hl : listed.getD i true with
    | true => rfl
    | false =>
      have hi := getD_lt hl
      obtain ⟨o, ho⟩ : ∃ o, ops[i]? = some o := ⟨_, Array.getElem?_eq_getElem (by omega)⟩
      have : i ∈ Region.ready .any ops listed := by
        rw [mem_ready]
        refine ⟨hl, o, ho, fun e he hb => ?_⟩
        have hj := plan.before i o ho e.on (mem_preds.2 ⟨e, he, hb, rfl⟩)
        have := ih e.on hj
        have hlt : e.on < listed.size := by omega
        simpa [Array.getD_eq_getD_getElem?, hlt] using this
      rw [h] at this
      cases this

theorem any_sound {K : Fr → Store → Prop} (plan : Plan ow P n ops l) (htab : tab.length = l.length) (hdist : DistIns l frE) (hK : ∀ g, AllIns l frE g → K frE (addIns g (H m))) (hm : m = rank l l.length) (hag : Agree l fr frE) (hfa : FrAt l fr frE tab)
    (hf : ∀ (p : Nat) (d : DOp) (e : Entry), l[p]? = some d → tab[p]? = some e → Fact P frE H m d e (rank l p)) :
    ∀ (fuel : Nat) (listed : Array Bool) (a : Act) (w' : World) (fr' : Fr) (c : Nat) (μ' : Mu) (g : Ins), Mid n ds ops l μ S w fr frE H m listed a w' fr' c μ' g → unl ops.size listed ≤ fuel →
      wpAny P .any ops (Post n ds μ (Mut μ S) w fun x => match x with | .normal => K | _ => fun _ _ => False) fuel listed a w' := by
  have fin : ∀ (listed : Array Bool) (a : Act) (w' : World) (fr' : Fr) (c : Nat) (μ' : Mu) (g : Ins), Mid n ds ops l μ S w fr frE H m listed a w' fr' c μ' g → (∀ i, listed.getD i true = true) →
      Post n ds μ (Mut μ S) w (fun x => match x with | .normal => K | _ => fun _ _ => False) .normal a w' := by
    intro listed a w' fr' c μ' g hM hall
    have e1 : fr' = frE := by
      funext t
      by_cases h : ∃ (i : Nat) (d : DOp), l[i]? = some d ∧ d.dst = some t
      · obtain ⟨i, d, hd, ht⟩ := h
        rw [hM.on i d t hd ht, hall i, if_pos rfl]
      · have h' : ∀ (i : Nat) (d : DOp), l[i]? = some d → d.dst ≠ some t := fun i d hd ht => h ⟨i, d, hd, ht⟩
        rw [hM.off t h', hag t fun x hx => by obtain ⟨i, hi⟩ := List.getElem?_of_mem hx; exact h' i x hi]
    have e2 : c = m := by
      rcases Nat.lt_or_ge c m with h | h
      · rw [hm] at h
        obtain ⟨e, de, _, hde, he, hr⟩ := rank_surj l l.length c h
        have := (hM.count e de hde he).1 (hall e)
        omega
      · have := hM.le; omega
    subst e1; subst e2
    exact ⟨μ', addIns g (H c), fr', .normal, hK g (fun j k v => by
      rw [hM.spec]
      constructor
      · rintro ⟨q, dq, q1, _, q3⟩; exact ⟨dq, List.mem_of_getElem? q1, q3⟩
      · rintro ⟨dq, q1, q3⟩
        obtain ⟨q, hq⟩ := List.getElem?_of_mem q1
        exact ⟨q, dq, hq, hall q, q3⟩), ⟨hM.repr, hM.fr, hM.tmps, hM.defers⟩, hM.keep, trivial⟩
  intro fuel
  induction fuel with
  | zero =>
    intro listed a w' fr' c μ' g hM hu
    have hall : ∀ i, listed.getD i true = true := fun i => by
      cases hl : listed.getD i true with
      | true => rfl
      | false =>
        have hi := getD_lt hl
        have := (unl_set ops.size i hl).1 (by rw [← hM.size]; exact hi)
        omega
    refine ⟨?_, fin _ _ _ _ _ _ _ hM hall⟩
    cases hr : Region.ready .any ops listed with
    | nil => rfl
    | cons i r =>
      have : i ∈ Region.ready .any ops listed := by rw [hr]; exact List.mem_cons_self ..
      rw [mem_ready] at this
      rw [hall i] at this
      cases this.1
  | succ fuel ih =>
    intro listed a w' fr' c μ' g hM hu
    refine ⟨fun h => fin _ _ _ _ _ _ _ hM (all_of_ready plan hM.size h), fun i hi => ?_⟩
    obtain ⟨hun, o, ho, hafter⟩ := mem_ready.1 hi
    obtain ⟨d, hd, hdst, hg, hlo, hok⟩ := plan.at' i o ho
    have hpre : ∀ j ∈ predsOf o, listed.getD j true = true := fun j hj => by
      obtain ⟨e, he, hb, rfl⟩ := mem_preds.1 hj
      have := hafter e he hb
      rcases Nat.lt_or_ge e.on listed.size with h | h
      · simpa [Array.getD_eq_getD_getElem?, h] using this
      · simp [Array.getD_eq_getD_getElem?, Array.getElem?_eq_none h] at this
    obtain ⟨en, hen⟩ : ∃ en, tab[i]? = some en := ⟨_, List.getElem?_eq_getElem (by rw [htab]; exact Eng.get_lt hd)⟩
    have F := hf i d en hd hen
    have hu' : unl ops.size (listed.setIfInBounds i true) ≤ fuel := by
      have := (unl_set ops.size i hun).1 (by rw [← hM.size]; exact getD_lt hun)
      omega
    -- what it uses is what the walk held there
    have agree1 : ∀ t, (t ∈ uses d.op ∨ ∃ want, d.guard = some (t, want)) → fr' t = en.fr t := fun t ht => by
      obtain ⟨f1, f2⟩ := hfa i en hen t
      by_cases h : ∃ (j : Nat) (dj : DOp), l[j]? = some dj ∧ dj.dst = some t
      · obtain ⟨j, dj, hdj, hjt⟩ := h
        rw [hM.on j dj t hdj hjt]
        rcases plan.uses i d o hd ho t ht j dj hdj hjt with hp | ⟨oj, hoj, hp⟩
        · rw [hpre j hp, if_pos rfl, f1 ⟨j, dj, plan.before i o ho j hp, hdj, hjt⟩]
        · have hnj : listed.getD j true = false := by
            cases hl : listed.getD j true with
            | false => rfl
            | true => have := hM.down j oj hoj hl i hp; rw [hun] at this; cases this
          have hij := plan.before j oj hoj i hp
          rw [hnj, if_neg (by simp), f2 fun ⟨q, x, hq, hx, hxt⟩ => by
            have := plan.once j dj hdj t hjt q x hx hxt
            omega]
      · have h' : ∀ (i : Nat) (d : DOp), l[i]? = some d → d.dst ≠ some t := fun i d hd ht => h ⟨i, d, hd, ht⟩
        rw [hM.off t h', f2 fun ⟨q, x, _, hx, hxt⟩ => h' q x hx hxt]
    have huse : ∀ t ∈ uses d.op, en.fr t = fr' t := fun t ht => (agree1 t (.inl ht)).symm
    -- is it wanted?
    have hw : Region.wanted o (yielded ops a.tmps) = en.act := by
      rcases F.guard with ⟨h1, h2⟩ | ⟨g, want, h1, h2⟩
      · have hgo : o.guard = none := by
          cases hgg : o.guard with
          | none => rfl
          | some jw =>
            obtain ⟨j, w'⟩ := jw
            rw [hgg, h1] at hg
            simp only [lowerG] at hg
            split at hg
            · split at hg
              · split at hg <;> cases hg
              · cases hg
            · cases hg
        simp [Region.wanted, hgo, h2]
      · rw [h1] at hg
        obtain ⟨j, oj, hgo, hoj, hdj, hsn⟩ := lowerG_sound hg
        have hy := yielded_of (a := a) hoj hdj (by rw [hM.tmps]; exact hsn)
        have hrep := hM.fr g
        rw [agree1 g (.inr ⟨want, h1⟩)] at hrep
        rcases h2 with ⟨b, hb, hact⟩ | ⟨hb, hact⟩
        · rw [hb] at hrep
          simp only [Rep] at hrep
          rw [hrep] at hy
          simp only at hy
          rw [hact]
          simp [Region.wanted, hgo, hy]
        · rw [hb] at hrep
          simp only [Rep] at hrep
          rw [hrep] at hy
          rw [hact]
          simp [Region.wanted, hgo, hy, undef]
    -- the maps' names are named
    have hgn : ∀ k, g (H c).n k = none := fun k => by
      cases hg0 : g (H c).n k with
      | none => rfl
      | some v =>
        obtain ⟨c0, h0⟩ := hM.named _ _ _ hg0
        have := hM.repr.fin _ _ h0
        rw [n_addIns] at this
        exact absurd this (Nat.lt_irrefl _)
    have hadd : isIns d.op = false → (∀ j k, g j k = none) ∨ notMap d.op = true := fun hi0 => by
      rcases plan.gets with h | h
      · refine .inl fun j k => ?_
        cases hg0 : g j k with
        | none => rfl
        | some v =>
          obtain ⟨q, dq, q1, _, q3⟩ := (hM.spec j k v).1 hg0
          have := h dq (List.mem_of_getElem? q1)
          rw [insAtF_ins q3] at this; cases this
      · refine .inr ?_
        have h0 := h d (List.mem_of_getElem? hd)
        cases hop : d.op <;> rw [hop] at h0 hi0 <;> first | rfl | (simp [isIns] at hi0; done) | (simp [isGet] at h0; done)
    have hnone : isIns d.op = false → ∀ j k v, ¬ insAtF frE d = some (j, k, v) := fun hi0 j k v h => by rw [insAtF_ins h] at hi0; cases hi0
    have hsame : isIns d.op = false → ∀ j k v, g j k = some v ↔ g j k = some v ∨ insAtF frE d = some (j, k, v) := fun hi0 j k v =>
      ⟨.inl, fun h => h.elim id fun h => absurd h (hnone hi0 j k v)⟩
    unfold wpOp
    simp only [ho, hw]
    cases hact : en.act with
    | false =>
      simp only [Bool.false_eq_true, if_false]
      obtain ⟨hv, heff⟩ := F.off hact
      have hi0 : isIns d.op = false := by
        cases hi0 : isIns d.op with
        | false => rfl
        | true =>
          obtain ⟨_, hg0, _⟩ := plan.ins i d o hd ho hi0
          rcases F.guard with ⟨_, h2⟩ | ⟨g, want, h1, _⟩
          · rw [hact] at h2; cases h2
          · rw [hg0] at h1; cases h1
      have := hM.step (g' := g) plan ho hd hdst hok hun hpre (v := .und) (x := undef) (c' := c) (μ'' := μ') (w'' := w') (fun t ht => by rw [F.dst t ht, hv]) (by rw [heff]; rfl) (fun h => by rw [heff] at h; cases h) hM.repr (Keeps.refl _ _ _) (by simp only [Rep])
        (hsame hi0) (fun j k v h => absurd h (hnone hi0 j k v))
      exact ih _ _ _ _ _ _ _ this hu'
    | true =>
      simp only [if_true]
      refine .inl ?_
      have cont : ∀ c' g', c' = (if d.eff then c + 1 else c) → (d.eff = true → rank l i = c ∧ c + 1 ≤ m) →
          (∀ j k v, g' j k = some v ↔ g j k = some v ∨ insAtF frE d = some (j, k, v)) → (∀ j k v, insAtF frE d = some (j, k, v) → ∃ c, μ' j = some c) →
          OpOk P o a μ' (addIns g (H c)) w' (fun u S' => u = en.v ∧ S' = addIns g' (H c')) (fun _ _ => False) →
          o.wp P a w' (wpAny P .any ops (Post n ds μ (Mut μ S) w fun x => match x with | .normal => K | _ => fun _ _ => False) fuel (listed.setIfInBounds i true)) (Post n ds μ (Mut μ S) w fun x => match x with | .normal => K | _ => fun _ _ => False) := by
        intro c' g' hc hrk hsp hnm hok'
        unfold OpOk Oper.wp at hok'
        unfold Oper.wp
        generalize (execOp a.eval o).run P w' = r at hok'
        have next : ∀ a' w'', (∃ μ'' S' v x, (v = en.v ∧ S' = addIns g' (H c')) ∧ a' = a.put o.dst x ∧ Repr μ'' S' w'' ∧ Keeps μ' (Mut μ' (addIns g (H c))) w' μ'' (Mut μ'' S') w'' ∧ Rep μ'' (Mut μ'' S') w'' v x) →
            wpAny P .any ops (Post n ds μ (Mut μ S) w fun x => match x with | .normal => K | _ => fun _ _ => False) fuel (listed.setIfInBounds i true) a' w'' := by
          rintro a' w'' ⟨μ'', S', v, x, ⟨rfl, rfl⟩, rfl, k3, k4, k5⟩
          exact ih _ _ _ _ _ _ _ (hM.step plan ho hd hdst hok hun hpre F.dst hc hrk k3 k4 k5 hsp hnm) hu'
        cases r with
        | ok x w'' =>
          cases x <;> dsimp only [Oper.upon] at hok' ⊢ <;> first
            | exact hok'.elim
            | exact next _ _ hok'
            | (refine Calls.mono hok' fun e w'' he => ?_
               cases e
               · exact next _ _ he
               · obtain ⟨_, _, _, _, h, _⟩ := he; exact h.elim
               · obtain ⟨_, _, _, _, _, _, _, h, _⟩ := he; cases h)
            | (obtain ⟨μ', S', v, x, k1, k2, k3, k4, k5⟩ := hok'
               have := congrArg (fun a : Act => a.defers.length) k2
               simp [put_defers] at this)
            | exact Rows.mono hok' fun v w'' he => next _ _ he
        | halt x w'' => cases x <;> dsimp only [Oper.upon] at hok' ⊢ <;> first | (obtain ⟨_, _, _, _, h, _⟩ := hok'; exact h.elim) | exact hok'.elim
      have mlt : ∀ e de, l[e]? = some de → de.eff = true → rank l e < m := fun e de hde he => by rw [hm]; exact rank_lt l hde he (Eng.get_lt hde)
      cases heff : d.eff with
      | false =>
        have h1 : rank l i ≤ c + d.back := by
          rcases Nat.lt_or_ge (c + d.back) (rank l i) with h | h
          · obtain ⟨e, de, he1, hde, he, hr⟩ := rank_surj l i (rank l i - d.back - 1) (by omega)
            have := (hM.count e de hde he).1 (hpre e (plan.back i d o hd ho heff e de hde he (by omega)))
            omega
          · exact h
        have h2 : c ≤ rank l i + d.fwd := by
          rcases Nat.lt_or_ge (rank l i + d.fwd) c with h | h
          · have hc := hM.le
            obtain ⟨e, de, he1, hde, he, hr⟩ := rank_surj l l.length (rank l i + d.fwd) (by omega)
            obtain ⟨oe, hoe⟩ : ∃ o, ops[e]? = some o := ⟨_, Array.getElem?_eq_getElem (by rw [← plan.len]; exact he1)⟩
            have h3 := (hM.count e de hde he).2 (by omega)
            have h4 := hM.down e oe hoe h3 i (plan.fwd i d o hd ho heff e de oe hde hoe he (by omega))
            rw [hun] at h4; cases h4
          · exact h
        have hsays := F.says hact heff c h1 h2 hM.le
        cases hi0 : isIns d.op with
        | false =>
          refine cont c g (by rw [heff]; rfl) (fun h => by rw [heff] at h; cases h) (hsame hi0) (fun j k v h => absurd h (hnone hi0 j k v)) ?_
          exact says_sound hM.repr hM.fr hlo hi0 ((hsays.congr huse).add (hadd hi0) hgn)
        | true =>
          obtain ⟨mm, kk, xx, hop⟩ : ∃ m k x, d.op = .mins m k x := by
            cases hop : d.op <;> rw [hop] at hi0 <;> first | exact ⟨_, _, _, rfl⟩ | cases hi0
          obtain ⟨_, _, _, huses⟩ := plan.ins i d o hd ho hi0
          have hfin : ∀ t ∈ uses d.op, fr' t = frE t := fun t ht => by
            by_cases h : ∃ (j : Nat) (dj : DOp), l[j]? = some dj ∧ dj.dst = some t
            · obtain ⟨j, dj, hdj, hjt⟩ := h
              rw [hM.on j dj t hdj hjt, hpre j (huses t ht j dj hdj hjt), if_pos rfl]
            · have h' : ∀ (i : Nat) (d : DOp), l[i]? = some d → d.dst ≠ some t := fun i d hd ht => h ⟨i, d, hd, ht⟩
              rw [hM.off t h', hag t fun x hx => by obtain ⟨i, hi⟩ := List.getElem?_of_mem hx; exact h' i x hi]
          have hs2 := hsays.congr huse
          rw [hop] at hs2
          unfold Says at hs2
          cases hst : stepOp P fr' (H c) (.mins mm kk xx) with
          | none => rw [hst] at hs2; exact hs2.elim
          | some out =>
            rw [hst] at hs2
            have hst' := hst
            simp only [stepOp] at hst'
            obtain ⟨l0, f, k0, e1, e2, e3, e4⟩ := minsV_eq hst'
            subst e4
            obtain ⟨e5, e6⟩ := mapAt_eq e1
            rw [hop] at hfin
            simp only [uses, List.mem_append] at hfin
            have hd0 : insAtF frE d = some (l0, k0, ev fr' xx) := by
              have x1 : ev frE mm = ev fr' mm := (evX_congr fun t ht => (hfin t (.inl ht)).symm)
              have x2 : ev frE kk = ev fr' kk := (evX_congr fun t ht => (hfin t (.inr (.inl ht))).symm)
              have x3 : ev frE xx = ev fr' xx := (evX_congr fun t ht => (hfin t (.inr (.inr ht))).symm)
              simp only [insAtF, hop, x1, x2, x3, e5, e2]
            have hg0 : g l0 k0 = none := by
              cases hg0 : g l0 k0 with
              | none => rfl
              | some v =>
                obtain ⟨q, dq, q1, q2, q3⟩ := (hM.spec _ _ _).1 hg0
                have := hdist i q d dq l0 k0 _ _ hd q1 hd0 q3
                subst this
                rw [hun] at q2; cases q2
            have hT : (addIns g (H c)).get l0 = some (.mpo (insF g l0 f)) := by rw [get_addIns, e6]; rfl
            have hstep : stepOp P fr' (addIns g (H c)) d.op = some (.st .und (addIns (insUpd g l0 k0 (ev fr' xx)) (H c))) := by
              rw [hop]
              have hf0 : insF g l0 f k0 = none := by simp only [insF, hg0, e3]
              simp only [stepOp, mapAt, e5, hT, e2, minsV, hf0, ← addIns_set_map e6]
            refine cont c (insUpd g l0 k0 (ev fr' xx)) (by rw [heff]; rfl) (fun h => by rw [heff] at h; cases h) (fun j k v => ?_) (fun j k v h => ?_) ?_
            · rw [insUpd_at, hd0]
              simp only [Option.some.injEq, Prod.mk.injEq]
              constructor
              · rintro (⟨rfl, rfl, rfl⟩ | ⟨_, h⟩)
                · exact .inr ⟨rfl, rfl, rfl⟩
                · exact .inl h
              · rintro (h | ⟨rfl, rfl, rfl⟩)
                · refine .inr ⟨fun ⟨h1, h2⟩ => ?_, h⟩
                  subst h1; subst h2; rw [hg0] at h; cases h
                · exact .inl ⟨rfl, rfl, rfl⟩
            · rw [hd0] at h
              cases h
              obtain ⟨c0, h0, _⟩ := hM.repr.objs _ _ hT
              exact ⟨c0, h0⟩
            · exact op_sound hM.repr hM.fr hlo hstep ⟨hs2.2, rfl⟩
      | true =>
        have h1 : rank l i = c := by
          have hnl : ¬ rank l i < c := fun h => by
            have := (hM.count i d hd heff).2 h
            rw [hun] at this; cases this
          rcases Nat.lt_or_ge c (rank l i) with h | h
          · obtain ⟨e, de, he1, hde, he, hr⟩ := rank_surj l i (rank l i - 1) (by omega)
            have := (hM.count e de hde he).1 (hpre e (plan.effs i d o hd ho heff e de hde he (by omega)))
            omega
          · omega
        have h2 := mlt i d hd heff
        obtain ⟨out, k1, k2⟩ := F.moves hact heff
        rw [h1] at k1 k2
        have hi0 : isIns d.op = false := by
          cases hi0 : isIns d.op with
          | false => rfl
          | true =>
            obtain ⟨_, _, h0, _⟩ := plan.ins i d o hd ho hi0
            rw [heff] at h0; cases h0
        refine cont (c + 1) g (by rw [heff]; rfl) (fun _ => ⟨h1, by omega⟩) (hsame hi0) (fun j k v h => absurd h (hnone hi0 j k v)) ?_
        rw [stepOp_congr huse] at k1
        have k3 := stepOp_add (P := P) (fr := fr') (hadd hi0) hgn
        rw [k1] at k3
        refine op_sound hM.repr hM.fr hlo k3 ?_
        cases out with
        | st u S' => exact ⟨k2.1, by rw [k2.2]⟩
        | asks p q u S' => exact ⟨k2.1, fun _ => ⟨k2.2.1, by rw [k2.2.2]⟩⟩
        | _ => exact k2.elim

theorem draw_any {K : Fr → Store → Prop} {a : Act} (hl : lowerD ow P n ops = some l) (hv : vcD P (fillK P K l) l fr S [] []) (hs : St n ds μ S w fr a) :
    wpAny P .any ops (Post n ds μ (Mut μ S) w fun x => match x with | .normal => K | _ => fun _ _ => False) ops.size (Array.replicate ops.size false) a { w with drawn := w.drawn + 1 } := by
  have plan := plan_of hl
  obtain ⟨tab, H, frE, h1, h2, h3, h4, hfa, h5, _⟩ := vcD_table l fr S [] [] 0 (fun _ => S) (tidy_of plan) hv rfl (fun j T h => by simp at h) rfl
  simp only [Nat.zero_add] at h3 h5
  obtain ⟨g0, f1, f2, f3, _⟩ := fillK_spec _ _ h3
  have hK : ∀ g, AllIns l frE g → K frE (addIns g (H (rank l l.length))) := fun g hg => by
    have : g = g0 := by
      funext j k
      cases e : g j k with
      | none =>
        cases e0 : g0 j k with
        | none => rfl
        | some v => have := (hg j k v).2 ((f1 j k v).1 e0); rw [e] at this; cases this
      | some v => exact ((f1 j k v).2 ((hg j k v).1 e)).symm
    rw [this]; exact f3
  have hH0 : H 0 = S := h2 0 (Nat.le_refl _)
  obtain ⟨r1, k1⟩ := hs.repr.world (w' := { w with drawn := w.drawn + 1 }) (Nat.le_refl _) (fun _ _ => rfl) rfl rfl rfl
  have hun : ∀ i, i < ops.size → (Array.replicate ops.size false).getD i true = false := fun i hi => by simp [Array.getD_eq_getD_getElem?, hi]
  have hz : addIns (fun _ _ => none) (H 0) = S := by rw [addIns_none (fun _ _ => rfl), hH0]
  have mid : Mid n ds ops l μ S w fr frE H (rank l l.length) (Array.replicate ops.size false) a { w with drawn := w.drawn + 1 } fr 0 μ (fun _ _ => none) := by
    have atl : ∀ i d, l[i]? = some d → (Array.replicate ops.size false).getD i true = false := fun i d hd => hun i (by rw [← plan.len]; exact Eng.get_lt hd)
    refine ⟨by simp, fun i o ho h => ?_, fun i d t hd ht => ?_, fun _ _ => rfl, fun e de hde he => ?_, Nat.zero_le _, by rw [hz]; exact r1, by rw [hz]; exact k1, by rw [hz]; exact hs.fr.keep k1, fun j k v => ⟨fun h => (nomatch h), fun ⟨i, d, hd, hl, _⟩ => ?_⟩, fun j k v h => (by cases h), hs.size, hs.defers⟩
    · obtain ⟨d, hd, _⟩ := plan.at' i o ho
      rw [atl i d hd] at h; cases h
    · rw [atl i d hd]; rfl
    · rw [atl e de hde]; constructor <;> intro h <;> first | cases h | omega
    · rw [atl i d hd] at hl; cases hl
  refine any_sound plan h1 f2 hK rfl h4 hfa h5 _ _ _ _ _ _ _ _ mid ?_
  unfold unl
  exact Nat.le_trans (List.length_filter_le _ _) (by simp)
theorem draw_sound {K : Fr → Store → Prop} {id : Nat} {a : Act} (hmo : P.follows .mixedOrders = true) (hl : lowerD ow P n ops = some l) (hv : vcD P (fillK P K l) l fr S [] []) (hs : St n ds μ S w fr a) :
    (Code.region id ops true).wp P (Post n ds μ (Mut μ S) w fun x => match x with | .normal => K | _ => fun _ _ => False) a w := wp_region_any hmo (draw_any hl hv hs)
theorem quiet_sound {K : Fr → Store → Prop} {id : Nat} {a : Act} (hmo : P.follows .mixedOrders = true) (hl : lowerD ow P n ops = some l) (hq : ∀ d ∈ l, isIns d.op = false) (hv : vcD P K l fr S [] []) (hs : St n ds μ S w fr a) :
    (Code.region id ops true).wp P (Post n ds μ (Mut μ S) w fun x => match x with | .normal => K | _ => fun _ _ => False) a w :=
  draw_sound hmo hl (by have : fillK P K l = K := (by funext fr S; exact fillK_quiet l hq)
                        rw [this]; exact hv) hs
end
end Go.Proofs.YtajbeippbabhhaaGreatDoor.Eng

namespace Go.Proofs.YtajbeippbabhhaaGreatDoor.Eng
open Go

/-! ## The orders that a region allows, as lists -/
inductive Lin (ops : Array Oper) : Array Bool → List Nat → Prop where
  | nil {listed : Array Bool} (h : Region.ready .any ops listed = []) : Lin ops listed []
  | cons {listed : Array Bool} {i : Nat} {L : List Nat} (h : i ∈ Region.ready .any ops listed) (r : Lin ops (listed.setIfInBounds i true) L) : Lin ops listed (i :: L)

theorem ready_nil_of_unl {ops : Array Oper} {listed : Array Bool} (hs : listed.size = ops.size) (h : unl ops.size listed = 0) : Region.ready .any ops listed = [] := by
  cases hr : Region.ready .any ops listed with
  | nil => rfl
  | cons i r =>
    have : i ∈ Region.ready .any ops listed := by rw [hr]; exact List.mem_cons_self ..
    rw [mem_ready] at this
    have := (unl_set ops.size i this.1).1 (by rw [← hs]; exact getD_lt this.1)
    omega

theorem lin_of (ops : Array Oper) : ∀ (fuel t : Nat) (listed : Array Bool), listed.size = ops.size → unl ops.size listed ≤ fuel → Lin ops listed (Region.linearise.go .any ops fuel t listed [])
  | 0, t, listed, hs, hu => by
    simp only [Region.linearise.go, List.reverse_nil]
    exact .nil (ready_nil_of_unl hs (by omega))
  | fuel + 1, t, listed, hs, hu => by
    simp only [Region.linearise.go]
    show Lin ops listed (match (Region.ready .any ops listed)[t % (Region.ready .any ops listed).length]? with
      | some i => Region.linearise.go .any ops fuel (t / (Region.ready .any ops listed).length) (listed.setIfInBounds i true) [i]
      | none => [].reverse)
    cases hi : (Region.ready .any ops listed)[t % (Region.ready .any ops listed).length]? with
    | none =>
      refine .nil ?_
      cases hr : Region.ready .any ops listed with
      | nil => rfl
      | cons x xs =>
        rw [hr] at hi
        have hlt : t % (x :: xs).length < (x :: xs).length := Nat.mod_lt _ (by simp)
        simp at hi
        simp at hlt
        omega
    | some i =>
      simp only []
      have hm := List.mem_of_getElem? hi
      have hun := (mem_ready.1 hm).1
      have := (unl_set ops.size i hun).1 (by rw [← hs]; exact getD_lt hun)
      rw [linearise_go_acc, List.reverse_singleton, List.singleton_append]
      exact .cons hm (lin_of ops fuel _ _ (by simp [hs]) (by omega))

theorem lin_wp {P : Program} {ops : Array Oper} {Q : Exit → Act → World → Prop} {listed : Array Bool} {L : List Nat} (hL : Lin ops listed L) :
    ∀ (fuel : Nat) (a : Act) (w : World), listed.size = ops.size → unl ops.size listed ≤ fuel → wpAny P .any ops Q fuel listed a w → wpOps P ops Q L a w := by
  induction hL with
  | nil h =>
    intro fuel a w hs hu hw
    cases fuel with
    | zero => exact hw.2
    | succ fuel => exact hw.1 h
  | cons h r ih =>
    intro fuel a w hs hu hw
    have hun := (mem_ready.1 h).1
    have hlt := (unl_set ops.size _ hun).1 (by rw [← hs]; exact getD_lt hun)
    cases fuel with
    | zero => rw [hw.1] at h; cases h
    | succ fuel =>
      rw [wpOps_cons]
      exact wpOp_mono (fun a w => ih fuel a w (by simp [hs]) (by omega)) (hw.2 _ h)

theorem lin_lt {ops : Array Oper} {listed : Array Bool} {L : List Nat} (h : Lin ops listed L) : ∀ i ∈ L, i < ops.size := by
  induction h with
  | nil => intro i hi; cases hi
  | cons h r ih =>
    intro i hi
    rcases List.mem_cons.1 hi with rfl | hi
    · obtain ⟨_, o, ho, _⟩ := mem_ready.1 h
      exact (Array.getElem?_eq_some_iff.1 ho).1
    · exact ih i hi

/-! ### One more edge -/
section
variable {ops : Array Oper} {i j : Nat}
theorem addEdge_size : (addEdge ops i j).size = ops.size := by simp [addEdge]
theorem addEdge_ne {k : Nat} (h : k ≠ j) : (addEdge ops i j)[k]? = ops[k]? := by
  unfold addEdge
  rw [Array.getElem?_modify, if_neg (fun e => h e.symm)]
theorem addEdge_at {o : Oper} (h : ops[j]? = some o) : (addEdge ops i j)[j]? = some { o with after := o.after.push ⟨i, .data⟩ } := by
  unfold addEdge
  rw [Array.getElem?_modify, if_pos rfl, h]; rfl
theorem ready_add_ne {listed : Array Bool} {k : Nat} (h : k ≠ j) : k ∈ Region.ready .any (addEdge ops i j) listed ↔ k ∈ Region.ready .any ops listed := by
  rw [mem_ready, mem_ready, addEdge_ne h]
theorem ready_add_at {listed : Array Bool} (hl : listed.getD i false = true) : j ∈ Region.ready .any (addEdge ops i j) listed ↔ j ∈ Region.ready .any ops listed := by
  rw [mem_ready, mem_ready]
  cases ho : ops[j]? with
  | none => simp [addEdge, Array.getElem?_modify, ho]
  | some o =>
    rw [addEdge_at ho]
    simp only [Option.some.injEq, exists_eq_left', Array.mem_push]
    constructor
    · rintro ⟨h1, h2⟩; exact ⟨h1, fun e he => h2 e (.inl he)⟩
    · rintro ⟨h1, h2⟩
      refine ⟨h1, fun e he hb => ?_⟩
      rcases he with he | rfl
      · exact h2 e he hb
      · exact hl
theorem ready_add_sub {listed : Array Bool} {k : Nat} (h : k ∈ Region.ready .any (addEdge ops i j) listed) : k ∈ Region.ready .any ops listed := by
  by_cases e : k = j
  · subst e
    rw [mem_ready] at h ⊢
    obtain ⟨h1, o', h2, h3⟩ := h
    cases ho : ops[k]? with
    | none => simp [addEdge, Array.getElem?_modify, ho] at h2
    | some o =>
      rw [addEdge_at ho] at h2
      simp only [Option.some.injEq] at h2
      subst h2
      exact ⟨h1, o, rfl, fun e he hb => h3 e (by simp [he]) hb⟩
  · exact (ready_add_ne e).1 h

theorem lin_add {listed : Array Bool} {L : List Nat} (h : Lin ops listed L) : listed.getD i false = true → Lin (addEdge ops i j) listed L := by
  induction h with
  | nil h =>
    intro hl
    refine .nil ?_
    cases hr : Region.ready .any (addEdge ops i j) _ with
    | nil => rfl
    | cons x r =>
      have := ready_add_sub (i := i) (j := j) (ops := ops) (k := x) (by rw [hr]; exact List.mem_cons_self ..)
      rw [h] at this; cases this
  | @cons listed k L h r ih =>
    intro hl
    refine .cons ?_ (ih ?_)
    · by_cases e : k = j
      · subst e; exact (ready_add_at hl).2 h
      · exact (ready_add_ne e).2 h
    · by_cases e : k = i
      · subst e
        have : k < listed.size := getD_lt (mem_ready.1 h).1
        simp [Array.getD_eq_getD_getElem?, this]
      · simpa [Array.getD_eq_getD_getElem?, Array.getElem?_setIfInBounds_ne e] using hl

theorem lin_split {listed : Array Bool} {L : List Nat} (hij : i ≠ j) (h : Lin ops listed L) : Lin (addEdge ops i j) listed L ∨ Lin (addEdge ops j i) listed L := by
  induction h with
  | nil h =>
    refine .inl (.nil ?_)
    cases hr : Region.ready .any (addEdge ops i j) _ with
    | nil => rfl
    | cons x r =>
      have := ready_add_sub (i := i) (j := j) (ops := ops) (k := x) (by rw [hr]; exact List.mem_cons_self ..)
      rw [h] at this; cases this
  | @cons listed k L h r ih =>
    have hk : k < listed.size := getD_lt (mem_ready.1 h).1
    by_cases e1 : k = i
    · subst e1
      exact .inl (.cons ((ready_add_ne hij).2 h) (lin_add r (by simp [Array.getD_eq_getD_getElem?, hk])))
    · by_cases e2 : k = j
      · subst e2
        exact .inr (.cons ((ready_add_ne (fun e => hij e.symm)).2 h) (lin_add r (by simp [Array.getD_eq_getD_getElem?, hk])))
      · rcases ih with ih | ih
        · exact .inl (.cons ((ready_add_ne e2).2 h) ih)
        · exact .inr (.cons ((ready_add_ne e1).2 h) ih)
end

/-- What a list of operations does hangs on what each does and on its guard alone. -/
theorem wpOps_map {P : Program} {ops ops' : Array Oper} {Q : Exit → Act → World → Prop} (f : Nat → Nat)
    (h : ∀ (i : Nat) (o : Oper), ops[i]? = some o → ∃ af g, ops'[f i]? = some { o with after := af, guard := g } ∧ ∀ tmps, Region.wanted { o with after := af, guard := g } (yielded ops' tmps) = Region.wanted o (yielded ops tmps)) :
    ∀ (L : List Nat) (a : Act) (w : World), (∀ i ∈ L, i < ops.size) → wpOps P ops' Q (L.map f) a w → wpOps P ops Q L a w
  | [], a, w, _, hw => hw
  | i :: L, a, w, hL, hw => by
    have hi := hL i (List.mem_cons_self ..)
    obtain ⟨o, ho⟩ : ∃ o, ops[i]? = some o := ⟨_, Array.getElem?_eq_getElem hi⟩
    obtain ⟨af, g, h1, h2⟩ := h i o ho
    have ih := fun (a : Act) (w : World) => wpOps_map (P := P) (Q := Q) f h L a w (fun k hk => hL k (List.mem_cons_of_mem _ hk))
    simp only [List.map_cons, wpOps, h1, ho, h2] at hw ⊢
    split
    · rename_i hwant
      rw [if_pos hwant] at hw
      rcases hw with hw | hw
      · refine .inl ?_
        exact Oper.wp_mono ih hw
      · exact .inr hw
    · rename_i hwant
      rw [if_neg hwant] at hw
      exact ih _ _ hw

theorem wpOps_add {P : Program} {ops : Array Oper} {Q : Exit → Act → World → Prop} {i j : Nat} {L : List Nat} {a : Act} {w : World} (hL : ∀ i ∈ L, i < ops.size) (h : wpOps P (addEdge ops i j) Q L a w) : wpOps P ops Q L a w := by
  have hy : ∀ tmps, yielded (addEdge ops i j) tmps = yielded ops tmps := fun tmps => by
    funext k
    unfold yielded
    by_cases e : k = j
    · subst e
      cases ho : ops[k]? with
      | none => simp [addEdge, Array.getElem?_modify, ho]
      | some o => rw [addEdge_at ho]; rfl
    · rw [addEdge_ne e]
  refine wpOps_map id (fun k o ho => ?_) L a w hL (by simpa using h)
  by_cases e : k = j
  · subst e
    exact ⟨_, o.guard, addEdge_at ho, fun tmps => by rw [hy]; rfl⟩
  · exact ⟨o.after, o.guard, by rw [id, addEdge_ne e]; exact ho, fun tmps => by rw [hy]⟩

/-! ### Other places -/
section
variable {ops : Array Oper} {ord : List Nat}
theorem perm_size (hok : permOk ops.size ord = true) : (permOps ops ord).size = ops.size := by
  unfold permOk at hok
  simp only [Bool.and_eq_true, beq_iff_eq] at hok
  simp [permOps, hok.1.1]
theorem perm_inv (hok : permOk ops.size ord = true) {i : Nat} (hi : i < ops.size) : ord.idxOf i < ops.size ∧ ord[ord.idxOf i]? = some i := by
  unfold permOk at hok
  simp only [Bool.and_eq_true, beq_iff_eq, List.all_eq_true, List.mem_range, decide_eq_true_eq] at hok
  have h1 := hok.1.2 i hi
  refine ⟨h1, ?_⟩
  have hlt : ord.idxOf i < ord.length := by rw [hok.1.1]; exact h1
  rw [List.getElem?_eq_getElem hlt, List.getElem_idxOf]
theorem perm_at (hok : permOk ops.size ord = true) {p : Nat} (hp : p < ops.size) : ∃ i, ord[p]? = some i ∧ i < ops.size ∧ ord.idxOf i = p := by
  unfold permOk at hok
  simp only [Bool.and_eq_true, beq_iff_eq, List.all_eq_true, List.mem_range, decide_eq_true_eq] at hok
  have h := hok.2 p hp
  split at h
  · rename_i i hi
    simp only [Bool.and_eq_true, decide_eq_true_eq, beq_iff_eq] at h
    exact ⟨i, hi, h.1, h.2⟩
  · cases h
theorem perm_out (hok : permOk ops.size ord = true) {i : Nat} (hi : ¬ i < ops.size) : ops.size ≤ ord.idxOf i := by
  rcases Nat.lt_or_ge (ord.idxOf i) ops.size with h | h
  · have hl := hok
    unfold permOk at hl
    simp only [Bool.and_eq_true, beq_iff_eq] at hl
    have hlt : ord.idxOf i < ord.length := by rw [hl.1.1]; exact h
    obtain ⟨j, h1, h2, h3⟩ := perm_at hok h
    rw [List.getElem?_eq_getElem hlt, List.getElem_idxOf] at h1
    cases h1
    exact absurd h2 hi
  · exact h
theorem perm_get (hok : permOk ops.size ord = true) {i : Nat} {o : Oper} (h : ops[i]? = some o) : (permOps ops ord)[ord.idxOf i]? = some (remapO (ord.idxOf ·) o) := by
  have hi := (Array.getElem?_eq_some_iff.1 h).1
  obtain ⟨h1, h2⟩ := perm_inv hok hi
  unfold permOps
  rw [List.getElem?_toArray, List.getElem?_map, h2]
  simp [Array.getD_eq_getD_getElem?, h]
theorem perm_none (hok : permOk ops.size ord = true) {i : Nat} (h : ops[i]? = none) : (permOps ops ord)[ord.idxOf i]? = none := by
  have hi : ¬ i < ops.size := by simpa using h
  have := perm_out hok hi
  rw [Array.getElem?_eq_none_iff, perm_size hok]; exact this

/-- The same operations are listed. -/
def RelL (ops : Array Oper) (ord : List Nat) (listed listed' : Array Bool) : Prop := listed.size = ops.size ∧ listed'.size = ops.size ∧ ∀ i, i < ops.size → listed'.getD (ord.idxOf i) true = listed.getD i true
theorem getD_ft {l : Array Bool} {i : Nat} (h : i < l.size) : l.getD i false = l.getD i true := by simp [Array.getD_eq_getD_getElem?, h]
theorem getD_fn {l : Array Bool} {i : Nat} (h : l.size ≤ i) : l.getD i false = false := by simp [Array.getD_eq_getD_getElem?, Array.getElem?_eq_none h]
theorem rel_false (hok : permOk ops.size ord = true) {listed listed' : Array Bool} (h : RelL ops ord listed listed') (i : Nat) : listed'.getD (ord.idxOf i) false = listed.getD i false := by
  obtain ⟨h1, h2, h3⟩ := h
  by_cases hi : i < ops.size
  · rw [getD_ft (by rw [h2]; exact (perm_inv hok hi).1), getD_ft (by rw [h1]; exact hi), h3 i hi]
  · rw [getD_fn (by rw [h2]; exact perm_out hok hi), getD_fn (by rw [h1]; omega)]
theorem ready_perm (hok : permOk ops.size ord = true) {listed listed' : Array Bool} (h : RelL ops ord listed listed') {i : Nat} : i ∈ Region.ready .any ops listed ↔ i < ops.size ∧ ord.idxOf i ∈ Region.ready .any (permOps ops ord) listed' := by
  rw [mem_ready, mem_ready]
  constructor
  · rintro ⟨h1, o, ho, h2⟩
    have hi := (Array.getElem?_eq_some_iff.1 ho).1
    refine ⟨hi, by rw [h.2.2 i hi]; exact h1, _, perm_get hok ho, fun e he hb => ?_⟩
    simp only [remapO, Array.mem_map] at he
    obtain ⟨e0, he0, rfl⟩ := he
    have := h2 e0 he0 hb
    rw [← rel_false hok h] at this
    exact this
  · rintro ⟨hi, h1, o', ho', h2⟩
    obtain ⟨o, ho⟩ : ∃ o, ops[i]? = some o := ⟨_, Array.getElem?_eq_getElem hi⟩
    rw [perm_get hok ho] at ho'
    cases ho'
    refine ⟨by rw [← h.2.2 i hi]; exact h1, o, ho, fun e he hb => ?_⟩
    have := h2 { e with on := ord.idxOf e.on } (by simp only [remapO, Array.mem_map]; exact ⟨e, he, rfl⟩) hb
    rw [← rel_false hok h]
    exact this

theorem lin_perm (hok : permOk ops.size ord = true) {listed : Array Bool} {L : List Nat} (hL : Lin ops listed L) : ∀ listed', RelL ops ord listed listed' → Lin (permOps ops ord) listed' (L.map (ord.idxOf ·)) := by
  induction hL with
  | @nil listed h =>
    intro listed' hr
    refine .nil ?_
    cases hq : Region.ready .any (permOps ops ord) listed' with
    | nil => rfl
    | cons p r =>
      have hp : p ∈ Region.ready .any (permOps ops ord) listed' := by rw [hq]; exact List.mem_cons_self ..
      obtain ⟨_, o, ho, _⟩ := mem_ready.1 hp
      have hlt := (Array.getElem?_eq_some_iff.1 ho).1
      rw [perm_size hok] at hlt
      obtain ⟨i, _, hi, he⟩ := perm_at hok hlt
      have := (ready_perm hok hr).2 ⟨hi, by rw [he]; exact hp⟩
      rw [h] at this; cases this
  | @cons listed i L h r ih =>
    intro listed' hr
    obtain ⟨hi, hp⟩ := (ready_perm hok hr).1 h
    refine .cons hp (ih _ ⟨by simp [hr.1], by simp [hr.2.1], fun k hk => ?_⟩)
    by_cases e : i = k
    · subst e
      have e1 : (listed.setIfInBounds i true).getD i true = true := getD_set_self (by rw [hr.1]; exact hi)
      have e2 : (listed'.setIfInBounds (ord.idxOf i) true).getD (ord.idxOf i) true = true := getD_set_self (by rw [hr.2.1]; exact (perm_inv hok hi).1)
      exact e2.trans e1.symm
    · have hne : ord.idxOf i ≠ ord.idxOf k := fun e2 => by
        have a1 := (perm_inv hok hi).2
        have a2 := (perm_inv hok hk).2
        rw [e2, a2] at a1; cases a1; exact e rfl
      rw [getD_set_other e, getD_set_other hne]; exact hr.2.2 k hk

theorem wpOps_perm {P : Program} {Q : Exit → Act → World → Prop} {L : List Nat} {a : Act} {w : World} (hok : permOk ops.size ord = true) (hL : ∀ i ∈ L, i < ops.size) (h : wpOps P (permOps ops ord) Q (L.map (ord.idxOf ·)) a w) : wpOps P ops Q L a w := by
  have hy : ∀ tmps k, yielded (permOps ops ord) tmps (ord.idxOf k) = yielded ops tmps k := fun tmps k => by
    unfold yielded
    cases ho : ops[k]? with
    | none => rw [perm_none hok ho]
    | some o => rw [perm_get hok ho]; rfl
  refine wpOps_map _ (fun k o ho => ⟨_, _, perm_get hok ho, fun tmps => ?_⟩) L a w hL h
  cases hg : o.guard with
  | none => simp [Region.wanted, hg]
  | some jw =>
    obtain ⟨j, want⟩ := jw
    simp only [Region.wanted, hg, Option.map_some, hy]
end

section
variable {ow : List Nat} {P : Program} {n : Nat} {ds : List Deferred} {μ : Mu} {S : Store} {w : World} {fr : Fr} {a : Act} {K : Fr → Store → Prop}
theorem vcFork_app : ∀ (xs ys : List (List DOp)), vcFork P K fr S (xs ++ ys) → vcFork P K fr S xs ∧ vcFork P K fr S ys
  | [], ys, h => ⟨trivial, h⟩
  | x :: xs, ys, h => by
    simp only [List.cons_append, vcFork] at h ⊢
    obtain ⟨h1, h2⟩ := vcFork_app xs ys h.2
    exact ⟨⟨h.1, h1⟩, h2⟩
theorem rep_false (m i : Nat) (b : Bool) (h : i < m) : (Array.replicate m false).getD i b = false := by simp [Array.getD_eq_getD_getElem?, h]

theorem fork_sound (hs : St n ds μ S w fr a) : ∀ (k : Nat) (ops : Array Oper) (ls : List (List DOp)), lowerFork ow P n ops k = some ls → vcFork P K fr S ls →
    ∀ L, Lin ops (Array.replicate ops.size false) L → wpOps P ops (Post n ds μ (Mut μ S) w fun x => match x with | .normal => K | _ => fun _ _ => False) L a { w with drawn := w.drawn + 1 } := by
  have base : ∀ (ops : Array Oper) (l : List DOp), lowerD ow P n ops = some l → vcFork P K fr S [l] → ∀ L, Lin ops (Array.replicate ops.size false) L → wpOps P ops (Post n ds μ (Mut μ S) w fun x => match x with | .normal => K | _ => fun _ _ => False) L a { w with drawn := w.drawn + 1 } := by
    intro ops l hl hv L hL
    refine lin_wp hL ops.size a _ (by simp) ?_ (draw_any hl hv.1 hs)
    unfold unl
    exact Nat.le_trans (List.length_filter_le _ _) (by simp)
  intro k
  induction k with
  | zero =>
    intro ops ls hl hv
    simp only [lowerFork] at hl
    obtain ⟨l, hl', rfl⟩ := opt_map hl
    exact base ops l hl' hv
  | succ k ih =>
    intro ops ls hl hv L hL
    simp only [lowerFork] at hl
    split at hl
    · rename_i l hl'
      cases hl
      exact base ops l hl' hv L hL
    · split at hl
      · rename_i i j hp
        split at hl
        · rename_i hc
          obtain ⟨hi, hj, hij, hok⟩ := hc
          split at hl
          · rename_i x y hx hy
            cases hl
            obtain ⟨v1, v2⟩ := vcFork_app _ _ hv
            have hLlt := lin_lt hL
            rcases lin_split hij hL with h | h
            · exact wpOps_add hLlt (ih _ _ hx v1 L (by rw [addEdge_size]; exact h))
            · refine wpOps_add (i := j) (j := i) hLlt ?_
              have hok' : permOk (addEdge ops j i).size (kahn (addEdge ops j i) ops.size []) = true := by rw [addEdge_size]; exact hok
              refine wpOps_perm hok' (by rw [addEdge_size]; exact hLlt) (ih _ _ hy v2 _ ?_)
              refine lin_perm hok' h _ ⟨by simp [addEdge_size], by simp [perm_size hok', addEdge_size], fun q hq => ?_⟩
              rw [addEdge_size] at hq
              rw [rep_false _ _ _ hq, rep_false _ _ _ (by rw [perm_size hok']; exact (perm_inv hok' (by rw [addEdge_size]; exact hq)).1)]
          · cases hl
        · cases hl
      · cases hl

theorem fork_wp {ops : Array Oper} {ls : List (List DOp)} {id k : Nat} (hmo : P.follows .mixedOrders = true) (hl : lowerFork ow P n ops k = some ls) (hv : vcFork P K fr S ls) (hs : St n ds μ S w fr a) :
    (Code.region id ops true).wp P (Post n ds μ (Mut μ S) w fun x => match x with | .normal => K | _ => fun _ _ => False) a w :=
  wp_region_draw fun t => by
    simp only [Region.schedule, hmo, Bool.true_or, if_true]
    refine fork_sound hs k ops ls hl hv _ (lin_of ops _ _ _ (by simp) ?_)
    unfold unl
    exact Nat.le_trans (List.length_filter_le _ _) (by simp)
end
end Go.Proofs.YtajbeippbabhhaaGreatDoor.Eng

namespace Go.Proofs.YtajbeippbabhhaaGreatDoor.Eng
open Go

theorem Post.mono {n ds μ M w e a w'} {Q Q' : Qx} (hq : ∀ x fr S, Q x fr S → Q' x fr S) (h : Post n ds μ M w Q e a w') : Post n ds μ M w Q' e a w' := by
  obtain ⟨μ', S', fr', x, h1, h2⟩ := h
  exact ⟨μ', S', fr', x, hq _ _ _ h1, h2⟩

theorem Code.wp_mono' {P : Program} {c : Code} {Q Q' : Exit → Act → World → Prop} {a : Act} {w : World} (h : c.wp P Q a w) (hq : ∀ e a w, Q e a w → Q' e a w) : c.wp P Q' a w := wp_mono h hq

section
variable {ow : List Nat} {P : Program} {n : Nat} {ds : List Deferred}

theorem vc_sound : ∀ (c : Code) (lc : LCode) (Q : Qx) (fr : Fr) (S : Store) (μ : Mu) (w : World) (a : Act), lowerC ow P n c = some lc → vc P lc Q fr S → St n ds μ S w fr a → c.wp P (Post n ds μ (Mut μ S) w Q) a w
  | .skip, lc, Q, fr, S, μ, w, a, hl, hv, hs => by
    simp only [lowerC, Option.some.injEq] at hl; subst hl
    exact wp_skip ⟨μ, S, fr, .normal, hv, hs, Keeps.refl _ _ _, trivial⟩
  | .ret, lc, Q, fr, S, μ, w, a, hl, hv, hs => by
    simp only [lowerC, Option.some.injEq] at hl; subst hl
    exact wp_ret ⟨μ, S, fr, .ret, hv, hs, Keeps.refl _ _ _, trivial⟩
  | .exit id, lc, Q, fr, S, μ, w, a, hl, hv, hs => by
    simp only [lowerC, Option.some.injEq] at hl; subst hl
    exact wp_exit ⟨μ, S, fr, .exit id, hv, hs, Keeps.refl _ _ _, rfl⟩
  | .region id ops draw, lc, Q, fr, S, μ, w, a, hl, hv, hs => by
    cases draw with
    | true =>
      simp only [lowerC] at hl
      split at hl
      · rename_i hmo
        split at hl
        rotate_left
        · split at hl
          · rename_i ls hls
            cases hl
            simp only [vc] at hv
            refine wp_mono (fork_wp (ds := ds) hmo hls hv hs) fun e a' w' h => h.mono fun x fr S hx => ?_
            cases x <;> first | exact hx | exact hx.elim
          · cases hl; exact hv.elim
        rename_i l hl'
        simp only [Option.some.injEq] at hl
        split at hl
        · rename_i hall
          subst hl
          simp only [vc] at hv
          refine wp_mono (quiet_sound (ds := ds) hmo hl' (fun d hd => by simpa using List.all_eq_true.1 hall d hd) hv hs) fun e a' w' h => h.mono fun x fr S hx => ?_
          cases x <;> first | exact hx | exact hx.elim
        · subst hl
          simp only [vc] at hv
          refine wp_mono (draw_sound (ds := ds) hmo hl' hv hs) fun e a' w' h => h.mono fun x fr S hx => ?_
          cases x <;> first | exact hx | exact hx.elim
      · cases hl; exact hv.elim
    | false =>
      simp only [lowerC] at hl
      split at hl
      rotate_left
      · cases hl; exact hv.elim
      rename_i gs hgs
      cases hl
      refine wp_region_list ?_
      simp only [vc] at hv
      refine wpList_mono (fun e a w h => h.mono fun x fr S hx => ?_) _ _ _ (steps_sound ops.toList gs fr S μ w a hgs hv hs)
      cases x <;> first | exact hx | exact hx.elim
  | .seq c d, lc, Q, fr, S, μ, w, a, hl, hv, hs => by
    simp only [lowerC] at hl
    split at hl
    · rename_i x y hx hy
      cases hl
      refine wp_seq ?_
      refine wp_mono (vc_sound c x _ fr S μ w a hx hv hs) fun e a' w' ⟨μ', S', fr', z, h1, h2, h3, h4⟩ => ?_
      cases z with
      | normal =>
        cases e <;> first | exact h4.elim | skip
        exact wp_mono (vc_sound d y Q fr' S' μ' w' a' hy h1 h2) fun e a w h => h.keep h3
      | _ => cases e <;> first | exact h4.elim | exact ⟨μ', S', fr', _, h1, h2, h3, h4⟩
    · cases hl
  | .cond x c d, lc, Q, fr, S, μ, w, a, hl, hv, hs => by
    simp only [lowerC] at hl
    split at hl
    · rename_i l x' y' hx hc hd
      cases hl
      have h1 := lowerX_sound hs.fr hx
      simp only [vc] at hv
      split at hv
      · rename_i t ht
        rw [ht] at h1
        simp only [Rep] at h1
        cases t with
        | true => exact wp_cond_true h1 (vc_sound c x' Q fr S μ w a hc (hv.1 rfl) hs)
        | false => exact wp_cond_false h1 (vc_sound d y' Q fr S μ w a hd (hv.2 rfl) hs)
      · exact hv.elim
    · cases hl
  | .block id c, lc, Q, fr, S, μ, w, a, hl, hv, hs => by
    simp only [lowerC] at hl
    obtain ⟨x, hx, rfl⟩ := opt_map hl
    refine wp_block ?_
    refine wp_mono (vc_sound c x _ fr S μ w a hx hv hs) fun e a' w' ⟨μ', S', fr', z, h1, h2, h3, h4⟩ => ?_
    cases z with
    | exit i =>
      cases e with
      | exit j =>
        have e1 : i = j := h4
        subst e1
        simp only at h1
        show (if i = id then Post n ds μ (Mut μ S) w Q .normal a' w' else Post n ds μ (Mut μ S) w Q (.exit i) a' w')
        by_cases e2 : i = id
        · rw [if_pos e2] at h1 ⊢
          exact ⟨μ', S', fr', .normal, h1, h2, h3, trivial⟩
        · rw [if_neg e2] at h1 ⊢
          exact ⟨μ', S', fr', .exit i, h1, h2, h3, rfl⟩
      | _ => exact h4.elim
    | _ => cases e <;> first | exact h4.elim | exact ⟨μ', S', fr', _, h1, h2, h3, h4⟩
  | .loop c, lc, Q, fr, S, μ, w, a, hl, hv, hs => by
    simp only [lowerC] at hl
    obtain ⟨x, hx, rfl⟩ := opt_map hl
    simp only [vc] at hv
    obtain ⟨I, m, h0, hround⟩ := hv
    intro b kk cs
    have key : ∀ (k : Nat) (fr' : Fr) (S' : Store) (μ' : Mu) (w' : World) (a' : Act), I k fr' S' → St n ds μ' S' w' fr' a' → Keeps μ (Mut μ S) w μ' (Mut μ' S') w' →
        ∃ e a1 w1, Post n ds μ (Mut μ S) w Q e a1 w1 ∧ Arrives P (lone (b.at a' (.code c :: .inLoop c :: kk)) cs w') b kk cs e a1 w1 := by
      intro k
      induction k using Nat.strongRecOn with
      | _ k ih =>
        intro fr' S' μ' w' a' hI hs' hk
        obtain ⟨e, a1, w1, hq, harr⟩ := vc_sound c x _ fr' S' μ' w' a' hx (hround k fr' S' hI) hs' b (.inLoop c :: kk) cs
        obtain ⟨μ1, S1, fr1, z, h1, h2, h3, h4⟩ := hq
        cases z with
        | normal =>
          cases e <;> first | exact h4.elim | skip
          obtain ⟨k1, hk1, hI1⟩ := h1
          obtain ⟨e2, a2, w2, hq2, harr2⟩ := ih k1 hk1 fr1 S1 μ1 w1 a1 hI1 h2 (hk.trans h3)
          exact ⟨e2, a2, w2, hq2, .of_steps (Steps.trans harr (.one step_inLoop)) harr2⟩
        | _ => cases e <;> first
          | exact h4.elim
          | exact ⟨_, a1, w1, ⟨μ1, S1, fr1, _, h1, h2, hk.trans h3, h4⟩, .pass (x := .inLoop c) rfl (fun _ _ => .inl (by simp)) harr⟩
    obtain ⟨e, a', w', hq, harr⟩ := key _ fr S μ w a h0 hs (Keeps.refl _ _ _)
    exact ⟨e, a', w', hq, .of_steps (.one step_loop) harr⟩
  | .rangeFunc .., lc, Q, fr, S, μ, w, a, hl, hv, hs => by simp only [lowerC, Option.some.injEq] at hl; subst hl; exact hv.elim
  | .scope .., lc, Q, fr, S, μ, w, a, hl, hv, hs => by simp only [lowerC, Option.some.injEq] at hl; subst hl; exact hv.elim
  | .label .., lc, Q, fr, S, μ, w, a, hl, hv, hs => by simp only [lowerC, Option.some.injEq] at hl; subst hl; exact hv.elim
  | .goto .., lc, Q, fr, S, μ, w, a, hl, hv, hs => by simp only [lowerC, Option.some.injEq] at hl; subst hl; exact hv.elim
  | .refuse .., lc, Q, fr, S, μ, w, a, hl, hv, hs => by
    simp only [lowerC, Option.some.injEq] at hl; subst hl
    exact hv.elim
end
end Go.Proofs.YtajbeippbabhhaaGreatDoor.Eng

namespace Go.Proofs.YtajbeippbabhhaaGreatDoor.Eng
open Go

/-! ## A function -/
def initFr : List AV → Nat → Fr → Fr
  | [], _, fr => fr
  | x :: l, i, fr => initFr l (i + 1) (upd fr i x)
def fr0 : Fr := fun _ => .und
theorem fr0_at (t : Nat) : fr0 t = .und := rfl

theorem initFr_at : ∀ (l : List AV) (i : Nat) (fr : Fr) (t : Nat), initFr l i fr t = if t < i then fr t else match l[t - i]? with | some x => x | none => fr t
  | [], i, fr, t => by simp [initFr]
  | x :: l, i, fr, t => by
    rw [initFr, initFr_at l]
    by_cases h1 : t < i
    · rw [if_pos (by omega), if_pos h1, upd_ne _ _ (by omega)]
    · rw [if_neg h1]
      by_cases h2 : t = i
      · subst h2; simp [upd_same]
      · rw [if_neg (by omega)]
        obtain ⟨k, hk⟩ : ∃ k, t - i = k + 1 := ⟨t - i - 1, by omega⟩
        have : t - (i + 1) = k := by omega
        rw [hk, this, List.getElem?_cons_succ, upd_ne _ _ h2]

def resV1 (S : Store) (fr : Fr) : LRes → Option AV
  | .tmp t => some (fr t)
  | .cell a ag n => match deref S (fr a) with
    | some cs => if n ≤ cs.length then some (mk ag (cs.take n)) else none
    | none => none
def resL (S : Store) (fr : Fr) : List LRes → Option (List AV)
  | [] => some []
  | r :: l => match resV1 S fr r, resL S fr l with
    | some v, some vs => some (v :: vs)
    | _, _ => none
def pack : List AV → AV
  | [v] => v
  | vs => .tup vs

section
variable {P : Program} {μ : Mu} {S : Store} {w : World} {fr : Fr} {a : Act}

def resFn (a : Act) : ResultVar → Sem Value
  | .tmp t => pure (a.tmps.getD t undef)
  | .cell x t => do loadVar t (← asAddr (a.tmps.getD x undef))

theorem res_sound (hr : Repr μ S w) (hf : FrRep μ (Mut μ S) w fr a) : ∀ (rs : List ResultVar) (ls : List LRes) (vs : List AV), lowerRes P rs = some ls → resL S fr ls = some vs →
    ∃ xs : List Value, (rs.mapM (resFn a)).run P w = .ok xs w ∧ RepVals μ (Mut μ S) w vs xs
  | [], ls, vs, hl, hv => by
    simp only [lowerRes, Option.some.injEq] at hl; subst hl
    simp only [resL, Option.some.injEq] at hv; subst hv
    exact ⟨[], by simp, by simp only [RepVals]⟩
  | .tmp t :: rs, ls, vs, hl, hv => by
    simp only [lowerRes] at hl
    obtain ⟨l, hl', rfl⟩ := opt_map hl
    simp only [resL, resV1] at hv
    split at hv
    · rename_i v vs' h1 h2
      cases h1; cases hv
      obtain ⟨xs, e1, e2⟩ := res_sound hr hf rs l vs' hl' h2
      refine ⟨a.tmps.getD t undef :: xs, ?_, ?_⟩
      rotate_left
      · simp only [RepVals]; exact ⟨_, _, rfl, hf t, e2⟩
      · rw [List.mapM_cons]; simp only [resFn, Sem.run_bind, Sem.run_pure, Result.andThen_ok, e1]
    · cases hv
  | .cell x t :: rs, ls, vs, hl, hv => by
    simp only [lowerRes] at hl
    split at hl
    · rename_i l i hl' hi
      have main : ∀ (ag : Bool) (n : Nat) (d : TypeDesc), P.underlying t = some d → isAggB P t = ag → (if ag then n = i.size else n = 1) → ls = .cell x ag n :: l → ∃ xs : List Value, ((ResultVar.cell x t :: rs).mapM (resFn a)).run P w = .ok xs w ∧ RepVals μ (Mut μ S) w vs xs := by
        rintro ag n d hd hag hn rfl
        simp only [resL, resV1] at hv
        split at hv
        · rename_i v vs' h1 h2
          cases hv
          split at h1
          · rename_i cs hcs
            split at h1
            · rename_i hle
              cases h1
              obtain ⟨xs, e1, e2⟩ := res_sound hr hf rs l vs' hl' h2
              obtain ⟨b, o, hp, hc⟩ := deref_sound hr (hf x) hcs
              obtain ⟨y, h3, h4⟩ := run_loadVar_of t hi hd b o cs hc ag n hag hn hle
              refine ⟨y :: xs, ?_, ?_⟩
              rotate_left
              · simp only [RepVals]; exact ⟨_, _, rfl, h4, e2⟩
              · rw [List.mapM_cons]
                simp only [resFn, hp, asAddr, Sem.run_bind, Sem.run_pure, Result.andThen_ok, h3, e1]
            · cases h1
          · cases h1
        · cases hv
      split at hl
      · rename_i hag
        obtain ⟨d, hd⟩ := isAgg_und hag
        cases hl
        exact main true _ d hd hag rfl rfl
      · rename_i hag
        split at hl
        · rename_i hs
          obtain ⟨d, hd⟩ := Option.isSome_iff_exists.1 hs
          cases hl
          exact main false _ d hd (by simpa using hag) rfl rfl
        · cases hl
    · cases hl

theorem results_sound {fn : Func} (hr : Repr μ S w) (hf : FrRep μ (Mut μ S) w fr a) {ls : List LRes} {vs : List AV} (hl : lowerRes P fn.results.toList = some ls) (hv : resL S fr ls = some vs) :
    ∃ x, (results fn a.tmps).run P w = .ok x w ∧ Rep μ (Mut μ S) w (pack vs) x := by
  obtain ⟨xs, h1, h2⟩ := res_sound hr hf _ ls vs hl hv
  have e : fn.results = fn.results.toList.toArray := by simp
  unfold results
  rw [e, List.mapM_toArray]
  simp only [Sem.run_bind, Sem.run_map]
  refine ⟨if h : xs.toArray.size = 1 then xs.toArray[0] else .tuple xs.toArray, ?_, ?_⟩
  · have h1' := h1
    erw [h1']
    rfl
  · match vs, xs, h2 with
    | [], xs, h2 => simp only [RepVals] at h2; subst h2; simp only [pack, Rep]; exact ⟨#[], by simp, by simp [RepVals]⟩
    | [v], xs, h2 =>
      simp only [RepVals] at h2
      obtain ⟨y, vs', rfl, h3, rfl⟩ := h2
      simpa [pack] using h3
    | v :: v' :: vs, xs, h2 =>
      have hlen := h2.length
      simp only [List.length_cons] at hlen
      have hne : ¬ xs.toArray.size = 1 := by simp; omega
      rw [dif_neg hne]
      simp only [pack, Rep]
      exact ⟨_, rfl, h2⟩

def Qend (rs : List LRes) (K : AEnd → Store → Prop) : Qx := fun e fr S => match e with
  | .normal | .ret => ∃ vs, resL S fr rs = some vs ∧ K (.ret (pack vs)) S
  | .pan v => K (.pan v) S
  | .exit _ => False

theorem acalls_of_vc {ow : List Nat} {f : FuncId} {n : Nat} {rs : List LRes} {body : LCode} {args : List AV} {S : Store} {K : AEnd → Store → Prop} (hl : lowerFO ow P f = some ⟨n, rs, body⟩) (hle : args.length ≤ n) (h : vc P body (Qend rs K) (initFr args 0 fr0) S) : ACalls P f args S K := by
  unfold lowerFO at hl
  split at hl
  · rename_i fn hfn
    split at hl
    · rename_i c hc
      split at hl
      · rename_i b r hb hres
        simp only [Option.some.injEq, LFunc.mk.injEq] at hl
        obtain ⟨rfl, rfl, rfl⟩ := hl
        intro μ w vs hr hv
        have hf0 : FrRep μ (Mut μ S) w (initFr args 0 fr0) { tmps := vs.toArray ++ Array.replicate (fn.ntmps - vs.toArray.size) undef, defers := [] } := by
          intro t
          rw [initFr_at, if_neg (by omega), Nat.sub_zero]
          have hlen := hv.length
          simp only [Array.getD_eq_getD_getElem?]
          cases hx : args[t]? with
          | some x =>
            obtain ⟨y, hy, hry⟩ := hv.at t x hx
            have : t < vs.length := get_lt hy
            have e : (vs.toArray ++ Array.replicate (fn.ntmps - vs.toArray.size) undef)[t]? = some y := by
              rw [Array.getElem?_append_left (by simpa using this)]
              simpa using hy
            rw [e]
            exact hry
          | none =>
            have h1 : args.length ≤ t := List.getElem?_eq_none_iff.1 hx
            have e : (vs.toArray ++ Array.replicate (fn.ntmps - vs.toArray.size) undef)[t]?.getD undef = undef := by
              rw [Array.getElem?_append_right (by simp; omega)]
              rw [Array.getElem?_replicate]
              split <;> rfl
            rw [e]
            simp only [fr0, Rep]
        have hle : vs.length ≤ fn.ntmps := by rw [hv.length]; exact hle
        · refine calls_of_wp hfn hc ?_
          refine wp_mono (vc_sound (n := fn.ntmps) (ds := []) c b _ _ S μ w _ hb h ⟨hr, hf0, by simp; omega, rfl⟩) fun e a' w' ⟨μ', S', fr', x, h1, h2, h3, h4⟩ => ?_
          have fin : ∀ vs, resL S' fr' r = some vs → K (.ret (pack vs)) S' → a'.defers = [] ∧ ∃ v, (results fn a'.tmps).run P w' = .ok v w' ∧ ∃ μ' S' r, K r S' ∧ Repr μ' S' w' ∧ Keeps μ (Mut μ S) w μ' (Mut μ' S') w' ∧ RepEnd μ' (Mut μ' S') w' r (.returned v) := by
            intro vs e1 e2
            obtain ⟨y, h5, h6⟩ := results_sound (fn := fn) h2.repr h2.fr hres e1
            exact ⟨h2.defers, y, h5, μ', S', _, e2, h2.repr, h3, h6⟩
          cases x with
          | normal =>
            cases e <;> first | exact h4.elim | skip
            obtain ⟨vs, e1, e2⟩ := h1
            exact fin vs e1 e2
          | ret =>
            cases e <;> first | exact h4.elim | skip
            obtain ⟨vs, e1, e2⟩ := h1
            exact fin vs e1 e2
          | pan v =>
            cases e <;> first | exact h4.elim | skip
            obtain ⟨u, e1, e2⟩ := h4
            exact ⟨h2.defers, μ', S', .pan v, h1, h2.repr, h3, u, e1, e2⟩
          | exit i => exact h1.elim
      · cases hl
    · cases hl
  · cases hl
end
end Go.Proofs.YtajbeippbabhhaaGreatDoor.Eng

namespace Go.Proofs.YtajbeippbabhhaaGreatDoor.Eng
open Go

/-! ## What is left behind at a function's end -/
def Turn (n0 : Nat) (vs : List AV) (S : Store) (vs' : List AV) (T : Store) : Prop :=
  ∀ μ w xs, Repr μ S w → RepVals μ (Mut μ S) w vs xs → ∃ μ', Repr μ' T w ∧ (∀ l c, l < n0 → μ l = some c → μ' l = some c) ∧ (∀ b, Mut μ' T b → Mut μ S b) ∧ RepVals μ' (Mut μ' T) w vs' xs

theorem Turn.refl (n0 : Nat) (vs : List AV) (S : Store) : Turn n0 vs S vs S := fun μ w xs h1 h2 => ⟨μ, h1, fun _ _ _ h => h, fun _ h => h, h2⟩
theorem Turn.trans {n0 vs S vs1 T vs2 U} (h : Turn n0 vs S vs1 T) (k : Turn n0 vs1 T vs2 U) : Turn n0 vs S vs2 U := fun μ w xs h1 h2 => by
  obtain ⟨μ1, a1, a2, a3, a4⟩ := h μ w xs h1 h2
  obtain ⟨μ2, b1, b2, b3, b4⟩ := k μ1 w xs a1 a4
  exact ⟨μ2, b1, fun l c hl hc => b2 l c hl (a2 l c hl hc), fun b hb => a3 b (b3 b hb), b4⟩

def AEnd.val : AEnd → AV
  | .ret v => v
  | .pan v => v
def AEnd.with : AEnd → AV → AEnd
  | .ret _, v => .ret v
  | .pan _, v => .pan v

theorem ACalls.turn {P f args S} {K0 K : AEnd → Store → Prop} (h : ACalls P f args S K0) (hk : ∀ r S', K0 r S' → ∃ v T, Turn S.n [r.val] S' [v] T ∧ K (r.with v) T) : ACalls P f args S K := by
  intro μ w vs hr hv
  refine (h μ w vs hr hv).mono fun e w' ⟨μ', S', r, h1, h2, h3, h4⟩ => ?_
  obtain ⟨v, T, ht, hK⟩ := hk r S' h1
  have hx : ∃ x, Rep μ' (Mut μ' S') w' r.val x ∧ ∀ μ2 M2, Rep μ2 M2 w' v x → RepEnd μ2 M2 w' (r.with v) e := by
    cases r with
    | ret u =>
      cases e with
      | returned x => exact ⟨x, h4, fun μ2 M2 h => h⟩
      | _ => exact h4.elim
    | pan u =>
      cases e <;> first | exact h4.elim | skip
      obtain ⟨x, e1, e2⟩ := h4
      exact ⟨x, e2, fun μ2 M2 h => ⟨x, e1, h⟩⟩
  obtain ⟨x, hx1, hx2⟩ := hx
  obtain ⟨μ2, b1, b2, b3, b4⟩ := ht μ' w' [x] h2 (by simp only [RepVals]; exact ⟨x, [], rfl, hx1, rfl⟩)
  simp only [RepVals] at b4
  obtain ⟨x', _, e, b4, rfl⟩ := b4
  simp only [List.cons.injEq, and_true] at e
  subst e
  refine ⟨μ2, T, r.with v, hK, b1, ?_, hx2 _ _ b4⟩
  exact ⟨fun l c hl => b2 l c (hr.fin l c hl) (h3.mu l c hl), fun b hb hm => h3.keepM b hb (b3 b hm), h3.size, h3.heap, h3.os, h3.tape, h3.output⟩

theorem Turn.drop {n0 vs S T} (hT : ∀ l o, T.get l = some o → S.get l = some o) (hn : S.n ≤ T.n) : Turn n0 vs S vs T := fun μ w xs h1 h2 => by
  obtain ⟨a1, a2⟩ := h1.drop hT hn
  exact ⟨μ, a1, fun _ _ _ h => h, fun b ⟨l, o, c, e1, e2⟩ => ⟨l, o, c, hT _ _ e1, e2⟩, RepVals.keep a2 _ _ h2⟩

mutual
/-- A row of one's own is given out as a slice that is read. -/
def fz (l s : Nat) (es : List (List AV)) : AV → AV
  | .own r off len => if r = l then .sl s (es.drop off) len else .own r off len
  | .agg cs => .agg (fzL l s es cs)
  | .tup cs => .tup (fzL l s es cs)
  | v => v
def fzL (l s : Nat) (es : List (List AV)) : List AV → List AV
  | [] => []
  | c :: cs => fz l s es c :: fzL l s es cs
end
mutual
/-- No row of `l` reaches behind its end. -/
def fzOk (l n : Nat) : AV → Prop
  | .own r off len => r = l → off + len ≤ n
  | .agg cs => fzOkL l n cs
  | .tup cs => fzOkL l n cs
  | _ => True
def fzOkL (l n : Nat) : List AV → Prop
  | [] => True
  | c :: cs => fzOk l n c ∧ fzOkL l n cs
end

theorem RepCells.weak {μ M w μ' M'} (k : Keeps μ M w μ' M' w) : ∀ (cs : List AV) (b o : Nat), RepCells μ M w cs b o → RepCells μ' M' w cs b o
  | [], b, o, h => by simp only [RepCells]
  | c :: cs, b, o, h => by
    simp only [RepCells] at h ⊢
    obtain ⟨⟨v, h1, h2, h3⟩, h4⟩ := h
    exact ⟨⟨v, h1, h2, h3.keep k⟩, RepCells.weak k cs b _ h4⟩
theorem RepRow.weak {μ M w μ' M'} (k : Keeps μ M w μ' M' w) (s : Nat) : ∀ (es : List (List AV)) (b o : Nat), RepRow μ M w s es b o → RepRow μ' M' w s es b o
  | [], b, o, h => by simp only [RepRow]
  | c :: cs, b, o, h => by
    simp only [RepRow] at h ⊢
    exact ⟨h.1.weak k, RepRow.weak k s cs b _ h.2⟩

section
variable {μ : Mu} {S : Store} {w : World} {l s frz : Nat} {t : TypeId} {es : List (List AV)}
mutual
theorem fz_sound (hr : Repr μ S w) (hl : S.get l = some (.row t s frz es)) : ∀ (x : AV) (v : Value), fzOk l es.length x → Rep μ (Mut μ S) w x v → Rep μ (Mut μ (S.set l none)) w (fz l s es x) v
  | .own r off len, v, hok, h => by
    simp only [fz]
    by_cases e : r = l
    · subst e
      simp only [if_true]
      simp only [fzOk] at hok
      have hle := hok trivial
      simp only [Rep] at h
      obtain ⟨c, A, hc, h1, h2, hv, hA⟩ := h
      obtain ⟨c', hc', ho⟩ := hr.objs r _ hl
      rw [hc] at hc'; cases hc'
      obtain ⟨h0, arr, fr, a1, a2, a3, a4, a5, a6, a7, a8, a9, a10⟩ := ho
      have hnm : ¬ Mut μ (S.set r none) c.block := by
        rintro ⟨j, o, d, e1, e2, e3⟩
        rw [Store.get_set] at e1
        by_cases ej : j = r
        · rw [if_pos ej] at e1; cases e1
        · rw [if_neg ej] at e1; exact ej (hr.inj j r o _ d c e1 hl e2 hc e3)
      have k : Keeps μ (Mut μ S) w μ (Mut μ (S.set r none)) w := (hr.drop (T := S.set r none) (fun j o e1 => by
        rw [Store.get_set] at e1
        by_cases ej : j = r
        · rw [if_pos ej] at e1; cases e1
        · rw [if_neg ej] at e1; exact e1) (Nat.le_refl _)).2
      have hlen : (es.drop off).length = es.length - off := by rw [List.length_drop]
      simp only [Rep]
      refine ⟨A, c.cap - off, hv, by rw [hlen]; omega, by rw [hlen]; omega, by rw [hlen]; omega, fun cs hcs => ?_, ?_⟩
      · rw [← h0]; exact a5 cs (List.mem_of_mem_drop hcs)
      · by_cases hlt : off < c.cap
        · refine .inr ⟨c.block, off * c.size, hA hlt, heap_lt a1, hnm, ?_⟩
          have hrow : RepRow μ (Mut μ S) w c.size es c.block 0 := repRow_of_block a1 a7 c.size es 0 _ a5 (fun j hj => by
            rw [Nat.zero_add]
            simp only [List.length_take] at hj
            rw [List.getElem?_take, if_pos (by omega)]) a6
          have := (RepRow.drop c.size es c.block 0 off hrow).weak k
          rw [h0, Nat.zero_add] at this
          rw [h0]
          exact this
        · refine .inl ?_
          exact List.eq_nil_of_length_eq_zero (by rw [hlen]; omega)
    · simp only [if_neg e]
      simp only [Rep] at h ⊢
      exact h
  | .agg cs, v, hok, h => by
    simp only [fzOk] at hok
    simp only [fz, Rep] at h ⊢
    obtain ⟨vs, e, h1, h2⟩ := h
    exact ⟨vs, e, fzL_sound hr hl cs _ hok h1, h2⟩
  | .tup cs, v, hok, h => by
    simp only [fzOk] at hok
    simp only [fz, Rep] at h ⊢
    obtain ⟨vs, e, h1⟩ := h
    exact ⟨vs, e, fzL_sound hr hl cs _ hok h1⟩
  | .int _ _, v, _, h | .bool _, v, _, h | .str _, v, _, h | .lit _, v, _, h | .ptr _ _, v, _, h | .rptr _ _ _, v, _, h | .rop _ _, v, _, h | .sl _ _ _, v, _, h | .mp _, v, _, h | .fn _ _, v, _, h | .ifc _ _, v, _, h | .und, v, _, h | .junk, v, _, h => by
    simp only [fz]
    exact h.keep (hr.drop (T := S.set l none) (fun j o e1 => by
        rw [Store.get_set] at e1
        by_cases ej : j = l
        · rw [if_pos ej] at e1; cases e1
        · rw [if_neg ej] at e1; exact e1) (Nat.le_refl _)).2
theorem fzL_sound (hr : Repr μ S w) (hl : S.get l = some (.row t s frz es)) : ∀ (x : List AV) (v : List Value), fzOkL l es.length x → RepVals μ (Mut μ S) w x v → RepVals μ (Mut μ (S.set l none)) w (fzL l s es x) v
  | [], v, _, h => by simpa only [fzL, RepVals] using h
  | c :: cs, v, hok, h => by
    simp only [fzOkL] at hok
    simp only [fzL, RepVals] at h ⊢
    obtain ⟨x, xs, e, h1, h2⟩ := h
    exact ⟨x, xs, e, fz_sound hr hl c x hok.1 h1, fzL_sound hr hl cs xs hok.2 h2⟩
end

theorem drop_one (S : Store) (l : Nat) : ∀ j o, (S.set l none).get j = some o → S.get j = some o := fun j o e1 => by
  rw [Store.get_set] at e1
  by_cases ej : j = l
  · rw [if_pos ej] at e1; cases e1
  · rw [if_neg ej] at e1; exact e1

theorem Turn.freeze {n0 vs} (hl : S.get l = some (.row t s frz es)) (hok : fzOkL l es.length vs) : Turn n0 vs S (fzL l s es vs) (S.set l none) := fun μ w xs h1 h2 =>
  ⟨μ, (h1.drop (drop_one S l) (Nat.le_refl _)).1, fun _ _ _ h => h, fun b ⟨j, o, c, e1, e2⟩ => ⟨j, o, c, drop_one S l _ _ e1, e2⟩, fzL_sound h1 hl vs xs hok h2⟩

/-- A row of one's own is handed on, to be read and kept. -/
theorem ACalls.give {P f args} {K : AEnd → Store → Prop} (hl : S.get l = some (.row t s frz es)) (hok : fzOkL l es.length args) (h : ACalls P f (fzL l s es args) (S.set l none) K) : ACalls P f args S K := by
  intro μ w vs hr hv
  have k := (hr.drop (drop_one S l) (Nat.le_refl _))
  refine (h μ w vs k.1 (fzL_sound hr hl args vs hok hv)).mono fun e w' ⟨μ', S', r, h1, h2, h3, h4⟩ => ⟨μ', S', r, h1, h2, k.2.trans h3, h4⟩

end

theorem reset_vals {n : Nat} {μ μ' : Mu} {M M' : Nat → Prop} {w : World} (h : ∀ x v, Rep μ M w x v → nm n x → Rep μ' M' w x v) : ∀ (vs : List AV) (xs : List Value), RepVals μ M w vs xs → nmL n vs → RepVals μ' M' w vs xs
  | [], xs, h1, _ => by simpa only [RepVals] using h1
  | c :: vs, xs, h1, h2 => by
    simp only [RepVals, nmL] at h1 h2 ⊢
    obtain ⟨x, xs, e, a1, a2⟩ := h1
    exact ⟨x, xs, e, h c x a1 h2.1, reset_vals h vs xs a2 h2.2⟩

theorem Turn.reset {n0 vs S T} (hn : T.n ≤ S.n) (h0 : n0 ≤ T.n) (hT : ∀ l o, T.get l = some o → S.get l = some o ∧ l < T.n ∧ nmO T.n o) (hv : nmL T.n vs) : Turn n0 vs S vs T := fun μ w xs h1 h2 => by
  obtain ⟨a1, a2, a3⟩ := h1.reset hn hT
  refine ⟨_, a1, fun l c hl hc => ?_, a2, ?_⟩
  · unfold cutMu; rw [if_pos (by omega)]; exact hc
  · exact reset_vals a3 vs xs h2 hv

/-! ## The usual end: what was there is there, the names are given back -/
def WF (S : Store) : Prop := ∀ l o, S.get l = some o → l < S.n ∧ nmO S.n o
theorem Repr.wf {μ S w} (h : Repr μ S w) : WF S := fun l o e => by
  obtain ⟨c, h1, h2⟩ := h.objs l o e
  exact ⟨h.fin l c h1, h2.names h.fin⟩
theorem ACalls.wf {P f args S} {K : AEnd → Store → Prop} (h : WF S → nmL S.n args → ACalls P f args S K) : ACalls P f args S K := fun μ w vs hr hv => h hr.wf (RepVals.names hr.fin _ _ hv) μ w vs hr hv

structure Ext (S T : Store) : Prop where
  n : S.n ≤ T.n
  get : ∀ l, l < S.n → T.get l = S.get l
theorem Ext.refl (S : Store) : Ext S S := ⟨Nat.le_refl _, fun _ _ => rfl⟩
theorem Ext.push {S T : Store} (h : Ext S T) (o : AObj) : Ext S (T.push o) := ⟨Nat.le_succ_of_le h.n, fun l hl => by rw [Store.get_push_ne _ _ (by have := h.n; omega)]; exact h.get l hl⟩
theorem Ext.set {S T : Store} (h : Ext S T) (l : Nat) (o : Option AObj) (hl : S.n ≤ l) : Ext S (T.set l o) := ⟨h.n, fun j hj => by rw [Store.get_set_ne _ _ (by omega)]; exact h.get j hj⟩
theorem Ext.trans {S T U : Store} (h : Ext S T) (k : Ext T U) : Ext S U := ⟨Nat.le_trans h.n k.n, fun l hl => (k.get l (Nat.lt_of_lt_of_le hl h.n)).trans (h.get l hl)⟩

theorem ACalls.back {P f args S} {K0 K : AEnd → Store → Prop} (h : ACalls P f args S K0) (hk : ∀ r S', K0 r S' → Ext S S' ∧ nm S.n r.val ∧ K r S) : ACalls P f args S K :=
  ACalls.wf fun hwf hn => h.turn fun r S' hr => by
    obtain ⟨h1, h2, h3⟩ := hk r S' hr
    refine ⟨r.val, S, Turn.reset h1.n (Nat.le_refl _) (fun l o e => ?_) (by simp only [nmL]; exact ⟨h2, trivial⟩), by cases r <;> exact h3⟩
    obtain ⟨a1, a2⟩ := hwf l o e
    exact ⟨by rw [h1.get l a1]; exact e, a1, a2⟩

theorem Pure.use {P f args v} {S : Store} {K : AEnd → Store → Prop} (h : Pure P f args v) (k : K (.ret v) S) : ACalls P f args S K := (h S).mono fun r S' ⟨h1, h2⟩ => by subst h1; subst h2; exact k
theorem Pure.of {P f args v} (hn : ∀ n, nmL n args → nm n v) (h : ∀ S, ACalls P f args S fun r S' => r = .ret v ∧ Ext S S') : Pure P f args v := fun S =>
  ACalls.wf fun _ hw => ACalls.back (h S) fun r S' ⟨h1, h2⟩ => ⟨h2, by subst h1; exact hn _ hw, h1, rfl⟩

theorem w64 (n : Int) (h1 : -9223372036854775808 ≤ n) (h2 : n ≤ 9223372036854775807) : IntKind.i64.wrap n = n := by rw [IntKind.wrap_i64]; omega
end Go.Proofs.YtajbeippbabhhaaGreatDoor.Eng

namespace Go.Proofs.YtajbeippbabhhaaGreatDoor.Eng
open Go

/-! ## A cut in the middle of a code -/
theorem vcOps_mono {P : Program} {K K' : Fr → Store → Prop} {E E' : AV → Fr → Store → Prop} (hk : ∀ fr S, K fr S → K' fr S) (he : ∀ v fr S, E v fr S → E' v fr S) :
    ∀ (l : List (Option Nat × LOp)) (fr : Fr) (S : Store), vcOps P K E l fr S → vcOps P K' E' l fr S
  | [], fr, S, h => hk _ _ h
  | (d, op) :: l, fr, S, h => by
    rw [vcOps_cons] at h ⊢
    cases hs : stepOp P fr S op with
    | none => rw [hs] at h; exact h
    | some out =>
      rw [hs] at h
      cases out with
      | val v => exact vcOps_mono hk he l _ _ h
      | st v S' => exact vcOps_mono hk he l _ _ h
      | asks p g v S' => exact ⟨h.1, fun hg => vcOps_mono hk he l _ _ (h.2 hg)⟩
      | call f args =>
        refine ACalls.mono h fun r S' hr => ?_
        cases r
        · exact vcOps_mono hk he l _ _ hr
        · exact he _ _ _ hr
      | pan v => exact he _ _ _ h
theorem vcGrps_mono {P : Program} {K K' : Fr → Store → Prop} {E E' : AV → Fr → Store → Prop} (hk : ∀ fr S, K fr S → K' fr S) (he : ∀ v fr S, E v fr S → E' v fr S) :
    ∀ (l : List LGrp) (fr : Fr) (S : Store), vcGrps P K E l fr S → vcGrps P K' E' l fr S
  | [], fr, S, h => hk _ _ h
  | ⟨none, ops⟩ :: l, fr, S, h => by
    rw [vcGrps_cons] at h ⊢
    exact vcOps_mono (fun fr S => vcGrps_mono hk he l fr S) he ops fr S h
  | ⟨some (g, want), ops⟩ :: l, fr, S, h => by
    rw [vcGrps_guard] at h ⊢
    unfold vcGuard at h ⊢
    split at h
    · exact ⟨fun e => vcOps_mono (fun fr S => vcGrps_mono hk he l fr S) he ops _ S (h.1 e), fun e => vcGrps_mono hk he l _ S (h.2 e)⟩
    · exact vcGrps_mono hk he l _ S h
    · exact h
theorem vcDOut_mono {P : Program} {fr : Fr} {S : Store} {olds : List Store} {op : LOp} {b : Nat} {N N' : AV → Prop} (h : ∀ v, N v → N' v) (o : Option Out) (hh : vcDOut P fr S olds op b N o) : vcDOut P fr S olds op b N' o := by
  unfold vcDOut at hh ⊢
  split at hh
  · exact ⟨hh.1, h _ hh.2⟩
  · exact ⟨hh.1, hh.2.1, hh.2.2.1, h _ hh.2.2.2⟩
  · obtain ⟨v, h1, h2, h3⟩ := hh; exact ⟨v, h1, h2, h _ h3⟩
  · exact ⟨hh.1, hh.2.1, h _ hh.2.2⟩
  · exact hh
theorem fillK_mono {P : Program} {K K' : Fr → Store → Prop} (hk : ∀ fr S, K fr S → K' fr S) : ∀ (l : List DOp) (fr : Fr) (S : Store), fillK P K l fr S → fillK P K' l fr S
  | [], fr, S, h => hk _ _ h
  | d :: l, fr, S, h => by
    simp only [fillK] at h ⊢
    have key : ∀ op, fillO P fr S (fun S' => fillK P K l fr S') op → fillO P fr S (fun S' => fillK P K' l fr S') op := fun op h => by
      unfold fillO at h ⊢
      split at h
      · unfold fillD at h ⊢
        split at h
        · exact fillK_mono hk l _ _ h
        · exact h
      · exact fillK_mono hk l _ _ h
    exact key _ h
theorem vcD_mono {P : Program} {K K' : Fr → Store → Prop} (hk : ∀ fr S, K fr S → K' fr S) : ∀ (l : List DOp) (fr : Fr) (S : Store) (olds : List Store) (pend : List Pend), vcD P K l fr S olds pend → vcD P K' l fr S olds pend
  | [], fr, S, olds, pend, h => by rw [vcD_nil] at h ⊢; exact hk _ _ h
  | ⟨dst, none, op, true, b, f⟩ :: l, fr, S, olds, pend, h => by
    rw [vcD_eff] at h ⊢
    unfold vcDEff at h ⊢
    split at h
    · exact ⟨h.1, vcD_mono hk l _ _ _ _ h.2⟩
    · exact ⟨h.1, h.2.1, vcD_mono hk l _ _ _ _ h.2.2⟩
    · exact h
  | ⟨dst, some (g, want), op, true, b, f⟩ :: l, fr, S, olds, pend, h => by simp only [vcD] at h
  | ⟨dst, none, op, false, b, f⟩ :: l, fr, S, olds, pend, h => by
    rw [vcD_val] at h ⊢
    exact vcDOut_mono (fun v hv => vcD_mono hk l _ _ _ _ hv) _ h
  | ⟨dst, some (g, want), op, false, b, f⟩ :: l, fr, S, olds, pend, h => by
    rw [vcD_guard] at h ⊢
    unfold vcDGuard at h ⊢
    split at h
    · exact ⟨fun e => vcDOut_mono (fun v hv => vcD_mono hk l _ _ _ _ hv) _ (h.1 e), fun e => vcD_mono hk l _ _ _ _ (h.2 e)⟩
    · exact vcD_mono hk l _ _ _ _ h
    · exact h

theorem vcFork_mono {P : Program} {K K' : Fr → Store → Prop} {fr : Fr} {S : Store} (hk : ∀ fr S, K fr S → K' fr S) : ∀ (ls : List (List DOp)), vcFork P K fr S ls → vcFork P K' fr S ls
  | [], _ => trivial
  | l :: ls, h => ⟨vcD_mono (fun fr S => fillK_mono hk l fr S) l fr S _ _ h.1, vcFork_mono hk ls h.2⟩

theorem vc_mono {P : Program} : ∀ (c : LCode) (Q Q' : Qx) (fr : Fr) (S : Store), (∀ e fr S, Q e fr S → Q' e fr S) → vc P c Q fr S → vc P c Q' fr S
  | .skip, Q, Q', fr, S, h, hv => h _ _ _ hv
  | .ret, Q, Q', fr, S, h, hv => h _ _ _ hv
  | .exit i, Q, Q', fr, S, h, hv => h _ _ _ hv
  | .bad, Q, Q', fr, S, h, hv => hv
  | .region l, Q, Q', fr, S, h, hv => vcGrps_mono (fun fr S => h _ fr S) (fun v fr S => h _ fr S) l fr S hv
  | .quiet l, Q, Q', fr, S, h, hv => vcD_mono (fun fr S => h _ fr S) l fr S _ _ hv
  | .fork ls, Q, Q', fr, S, h, hv => vcFork_mono (fun fr S => h _ fr S) ls hv
  | .draw l, Q, Q', fr, S, h, hv => vcD_mono (fun fr S => fillK_mono (fun fr S => h _ fr S) l fr S) l fr S _ _ hv
  | .seq a b, Q, Q', fr, S, h, hv => by
    rw [vc_seq] at hv ⊢
    refine vc_mono a _ _ fr S (fun e fr S he => ?_) hv
    cases e with
    | normal => exact vc_mono b _ _ fr S h he
    | _ => exact h _ _ _ he
  | .cond c a b, Q, Q', fr, S, h, hv => by
    rw [vc_cond] at hv ⊢
    unfold vcCond at hv ⊢
    split at hv
    · exact ⟨fun e => vc_mono a _ _ fr S h (hv.1 e), fun e => vc_mono b _ _ fr S h (hv.2 e)⟩
    · exact hv
  | .block i a, Q, Q', fr, S, h, hv => by
    rw [vc_block] at hv ⊢
    refine vc_mono a _ _ fr S (fun e fr S he => ?_) hv
    cases e with
    | exit j =>
      rw [Qblk_exit] at he ⊢
      by_cases e : j = i
      · rw [if_pos e] at he ⊢; exact h _ _ _ he
      · rw [if_neg e] at he ⊢; exact h _ _ _ he
    | _ => exact h _ _ _ he
  | .loop a, Q, Q', fr, S, h, hv => by
    obtain ⟨I, n, h0, hr⟩ := hv
    refine ⟨I, n, h0, fun n fr S hI => vc_mono a _ _ fr S (fun e fr S he => ?_) (hr n fr S hI)⟩
    cases e with
    | normal => exact he
    | _ => exact h _ _ _ he

theorem vcCond_T {P : Program} {Q : Qx} {fr : Fr} {S : Store} {a b : LCode} : vcCond P Q fr S a b (.bool true) = vc P a Q fr S := by simp [vcCond]
theorem vcCond_F {P : Program} {Q : Qx} {fr : Fr} {S : Store} {a b : LCode} : vcCond P Q fr S a b (.bool false) = vc P b Q fr S := by simp [vcCond]
theorem vc_cond_pos {P : Program} {Q : Qx} {fr : Fr} {S : Store} {a b : LCode} {c : LX} {p : Prop} [Decidable p] (h : ev fr c = .bool (decide p)) (hp : p) (hv : vc P a Q fr S) : vc P (.cond c a b) Q fr S := by
  rw [vc_cond, h, decide_eq_true hp, vcCond_T]; exact hv
theorem vc_cond_neg {P : Program} {Q : Qx} {fr : Fr} {S : Store} {a b : LCode} {c : LX} {p : Prop} [Decidable p] (h : ev fr c = .bool (decide p)) (hp : ¬ p) (hv : vc P b Q fr S) : vc P (.cond c a b) Q fr S := by
  rw [vc_cond, h, decide_eq_false hp, vcCond_F]; exact hv
def Qcut (R : Fr → Store → Prop) (Q : Qx) : Qx := fun e => match e with
  | .normal => R
  | e => Q e
section
variable (R : Fr → Store → Prop) (Q : Qx) (fr : Fr) (S : Store)
theorem Qcut_normal : Qcut R Q .normal fr S = R fr S := rfl
theorem Qcut_exit (i : Nat) : Qcut R Q (.exit i) fr S = Q (.exit i) fr S := rfl
theorem Qcut_ret : Qcut R Q .ret fr S = Q .ret fr S := rfl
theorem Qcut_pan (v : AV) : Qcut R Q (.pan v) fr S = Q (.pan v) fr S := rfl
end
theorem vc_cut {P : Program} {a b : LCode} {Q : Qx} {fr : Fr} {S : Store} (R : Fr → Store → Prop) (ha : vc P a (Qcut R Q) fr S) (hb : ∀ fr S, R fr S → vc P b Q fr S) : vc P (.seq a b) Q fr S := by
  rw [vc_seq]
  refine vc_mono a _ _ fr S (fun e fr S he => ?_) ha
  cases e with
  | normal => exact hb _ _ he
  | _ => exact he

/-! ## The words of every walk -/
attribute [go_sem] vc_fork vcFork_nil vcFork_cons vc_draw fillK_nil fillK_cons fillO fillD isIns
attribute [go_sem] vc_region vc_quiet vcD_nil vcD_eff vcDEff saysAll pendAll pendNext addPend Says vc_bad vc_seq vc_ret vc_skip vc_block vc_exit vcGrps_nil vcGrps_cons vcOps_nil
attribute [go_sem] vcOps_cons vcOut KCall_ret KCall_pan skipF_nil skipF_cons Qseq_normal Qseq_ret Qseq_exit Qseq_pan Qblk_normal Qblk_exit Qblk_ret Qblk_pan Qpan_eq Qcut_normal
attribute [go_sem] Qcut_exit Qcut_ret Qcut_pan Qloop_normal Qloop_exit Qloop_ret Qloop_pan stepOp ev upd_apply putF cellsOf deref faddrV mk abin abinI abinS ibits aeqb aun fldV
attribute [go_sem] updI mapAt keyOf mgetV minsV mgetO deqV eqKs eqK eqI eqH eqS tabAt idxOf elems isPtr putRef splice fillA rowsA minV peqV elemsA rowBytes strOf Store.get_push Store.get_set Store.n_push Store.n_set Option.map_some Option.map_none
attribute [go_sem] Nat.zero_add Nat.add_zero Nat.add_assoc Nat.add_left_cancel_iff Nat.left_eq_add Nat.add_eq_left Nat.lt_irrefl Nat.le_refl List.drop_zero List.drop_succ_cons
attribute [go_sem] List.take_succ_cons List.take_zero List.headD_cons List.length_cons List.length_nil List.getElem?_cons_zero List.getElem?_cons_succ List.set_cons_zero
attribute [go_sem] List.set_cons_succ List.map_cons List.map_nil Bool.not_true Bool.not_false Bool.false_eq_true Bool.true_eq_false Bool.not_eq_true' Bool.not_eq_false' eq_self
attribute [go_sem] false_imp_iff true_imp_iff and_true true_and and_false false_and or_true true_or initFr fr0_at Qend resL resV1 pack decide_eq_true_eq decide_eq_false_iff_not
attribute [go_sem] Int.toNat_natCast Option.some.injEq exists_eq_left'
end Go.Proofs.YtajbeippbabhhaaGreatDoor.Eng

namespace Go.Proofs.YtajbeippbabhhaaGreatDoor.Eng
open Go

/-! ## A value that stands for another too -/
def Wk (v v' : AV) : Prop := ∀ μ M w x, Rep μ M w v x → Rep μ M w v' x
def WkL (l l' : List AV) : Prop := ∀ μ M w xs, RepVals μ M w l xs → RepVals μ M w l' xs
theorem Wk.refl (v : AV) : Wk v v := fun _ _ _ _ h => h
theorem WkL.refl (l : List AV) : WkL l l := fun _ _ _ _ h => h
theorem Wk.nil (s : Nat) : Wk (.lit (.slice none 0 0)) (.sl s [] 0) := fun μ M w x h => by
  simp only [Rep] at h ⊢
  exact ⟨none, 0, h.1, by simp, by simp, by simp, by simp, .inl trivial⟩
theorem WkL.nil : WkL [] [] := fun _ _ _ _ h => h
theorem WkL.cons {v v' : AV} {l l' : List AV} (h : Wk v v') (k : WkL l l') : WkL (v :: l) (v' :: l') := fun μ M w xs hx => by
  simp only [RepVals] at hx ⊢
  obtain ⟨x, xs', e, h1, h2⟩ := hx
  exact ⟨x, xs', e, h μ M w x h1, k μ M w xs' h2⟩
theorem Wk.agg {l l' : List AV} (h : WkL l l') : Wk (.agg l) (.agg l') := fun μ M w x hx => by
  simp only [Rep] at hx ⊢
  obtain ⟨vs, e, h1, h2⟩ := hx
  exact ⟨vs, e, h μ M w _ h1, h2⟩
theorem Wk.tup {l l' : List AV} (h : WkL l l') : Wk (.tup l) (.tup l') := fun μ M w x hx => by
  simp only [Rep] at hx ⊢
  obtain ⟨vs, e, h1⟩ := hx
  exact ⟨vs, e, h μ M w _ h1⟩
theorem ACalls.args {P f args args' S K} (h : WkL args args') (k : ACalls P f args' S K) : ACalls P f args S K := fun μ w vs hr hv => k μ w vs hr (h μ _ w vs hv)
theorem Turn.weak {n0 : Nat} {vs vs' : List AV} {S : Store} (h : WkL vs vs') : Turn n0 vs S vs' S := fun μ w xs h1 h2 => ⟨μ, h1, fun _ _ _ h => h, fun _ h => h, h μ _ w xs h2⟩
theorem ACalls.weakR {P f args S} {K0 K : AEnd → Store → Prop} (h : ACalls P f args S K0) (hk : ∀ r S', K0 r S' → ∃ v, Wk r.val v ∧ K (r.with v) S') : ACalls P f args S K :=
  h.turn fun r S' hr => by
    obtain ⟨v, h1, h2⟩ := hk r S' hr
    exact ⟨v, S', Turn.weak (WkL.cons h1 WkL.nil), h2⟩
theorem Pure.weak {P f args v v'} (h : Pure P f args v) (hw : Wk v v') : Pure P f args v' := fun S =>
  (h S).weakR fun r S' ⟨h1, h2⟩ => by subst h1; exact ⟨v', hw, rfl, h2⟩
theorem Pure.args {P f args args' v} (h : WkL args args') (k : Pure P f args' v) : Pure P f args v := fun S => ACalls.args h (k S)
end Go.Proofs.YtajbeippbabhhaaGreatDoor.Eng

namespace Go.Proofs.YtajbeippbabhhaaGreatDoor.Eng
open Go

/-! ## Conditions that are known: the dead arm is not walked -/
section
variable (P : Program) (Q : Qx) (fr : Fr) (S : Store) (a b : LCode)
def vcC2 (x : AV) : Prop := vcCond P Q fr S a b x
def vcCB (t : Bool) : Prop := vcCond P Q fr S a b (.bool t)
theorem vc_cond2 (c : LX) : vc P (.cond c a b) Q fr S = vcC2 P Q fr S a b (ev fr c) := vc_cond ..
theorem vcC2_bool (t : Bool) : vcC2 P Q fr S a b (.bool t) = vcCB P Q fr S a b t := rfl
theorem vcCB_T : vcCB P Q fr S a b true = vc P a Q fr S := vcCond_T
theorem vcCB_F : vcCB P Q fr S a b false = vc P b Q fr S := vcCond_F
theorem vcCB_dec (p : Prop) [Decidable p] : vcCB P Q fr S a b (decide p) = ((p → vc P a Q fr S) ∧ (¬ p → vc P b Q fr S)) := by
  by_cases h : p <;> simp [vcCB, h, vcCond]
theorem vcCB_by (t : Bool) (h : (t = true → vc P a Q fr S) ∧ (t = false → vc P b Q fr S)) : vcCB P Q fr S a b t := h
end
section
variable (P : Program) (K : Fr → Store → Prop) (E : AV → Fr → Store → Prop) (g : Nat) (ops : List (Option Nat × LOp)) (rest : List LGrp) (fr : Fr) (S : Store)
def vcG2 (want : Bool) (x : AV) : Prop := vcGuard P K E g want ops rest fr S x
def vcGB (want t : Bool) : Prop := vcGuard P K E g want ops rest fr S (.bool t)
theorem vcGrps_guard2 (want : Bool) : vcGrps P K E (⟨some (g, want), ops⟩ :: rest) fr S = vcG2 P K E g ops rest fr S want (fr g) := vcGrps_guard ..
theorem vcG2_bool (want t : Bool) : vcG2 P K E g ops rest fr S want (.bool t) = vcGB P K E g ops rest fr S want t := rfl
theorem vcG2_und (want : Bool) : vcG2 P K E g ops rest fr S want .und = vcGrps P K E rest (skipF fr ops) S := rfl
theorem vcGB_TT : vcGB P K E g ops rest fr S true true = vcOps P (vcGrps P K E rest) E ops (upd fr g (.bool true)) S := by simp [vcGB, vcGuard]
theorem vcGB_FF : vcGB P K E g ops rest fr S false false = vcOps P (vcGrps P K E rest) E ops (upd fr g (.bool false)) S := by simp [vcGB, vcGuard]
theorem vcGB_TF : vcGB P K E g ops rest fr S true false = vcGrps P K E rest (skipF (upd fr g (.bool false)) ops) S := by simp [vcGB, vcGuard]
theorem vcGB_FT : vcGB P K E g ops rest fr S false true = vcGrps P K E rest (skipF (upd fr g (.bool true)) ops) S := by simp [vcGB, vcGuard]
theorem vcGB_Tdec (p : Prop) [Decidable p] : vcGB P K E g ops rest fr S true (decide p) = ((p → vcOps P (vcGrps P K E rest) E ops (upd fr g (.bool true)) S) ∧ (¬ p → vcGrps P K E rest (skipF (upd fr g (.bool false)) ops) S)) := by
  by_cases h : p <;> simp [vcGB, h, vcGuard]
theorem vcGB_Fdec (p : Prop) [Decidable p] : vcGB P K E g ops rest fr S false (decide p) = ((p → vcGrps P K E rest (skipF (upd fr g (.bool true)) ops) S) ∧ (¬ p → vcOps P (vcGrps P K E rest) E ops (upd fr g (.bool false)) S)) := by
  by_cases h : p <;> simp [vcGB, h, vcGuard]
end

section
variable (P : Program) (K : Fr → Store → Prop) (dst : Option Nat) (op : LOp) (b f : Nat) (rest : List DOp) (fr : Fr) (S : Store) (olds : List Store) (pend : List Pend)
def vcDO (o : Option Out) : Prop := vcDOut P fr S olds op b (fun v => vcD P K rest (putF fr dst v) S olds (addPend fr op v f pend)) o
theorem vcD_val2 : vcD P K (⟨dst, none, op, false, b, f⟩ :: rest) fr S olds pend = vcDO P K dst op b f rest fr S olds pend (stepOp P fr S op) := vcD_val ..
theorem vcDO_val (v : AV) : vcDO P K dst op b f rest fr S olds pend (some (.val v)) = (saysAll P fr op v b olds ∧ vcD P K rest (putF fr dst v) S olds (addPend fr op v f pend)) := rfl
theorem vcDO_asks (p g : Prop) (v : AV) (S' : Store) : vcDO P K dst op b f rest fr S olds pend (some (.asks p g v S')) = (p ∧ S' = S ∧ saysAll P fr op v b olds ∧ vcD P K rest (putF fr dst v) S olds (addPend fr op v f pend)) := rfl
theorem vcDO_st (v : AV) (S' : Store) : vcDO P K dst op b f rest fr S olds pend (some (.st v S')) = (isIns op = true ∧ saysAll P fr op v b olds ∧ vcD P K rest (putF fr dst v) S olds (addPend fr op v f pend)) := rfl
theorem vcDO_call (fn : FuncId) (args : List AV) : vcDO P K dst op b f rest fr S olds pend (some (.call fn args)) = (∃ v, CallOk P fn args S v ∧ saysAll P fr op v b olds ∧ vcD P K rest (putF fr dst v) S olds (addPend fr op v f pend)) := rfl
theorem vcDO_by {fn : FuncId} {args : List AV} {v : AV} (h : Pure P fn args v) (k : saysAll P fr op v b olds ∧ vcD P K rest (putF fr dst v) S olds (addPend fr op v f pend)) : vcDO P K dst op b f rest fr S olds pend (some (.call fn args)) := ⟨v, h.ok, k⟩
theorem vcDO_at {fn : FuncId} {args : List AV} {v : AV} (h : CallOk P fn args S v) (k : saysAll P fr op v b olds ∧ vcD P K rest (putF fr dst v) S olds (addPend fr op v f pend)) : vcDO P K dst op b f rest fr S olds pend (some (.call fn args)) := ⟨v, h, k⟩
def vcDG (g : Nat) (want : Bool) (x : AV) : Prop := vcDGuard want
      (vcDOut P (upd fr g (.bool want)) S olds op b (fun v => vcD P K rest (putF (upd fr g (.bool want)) dst v) S olds (addPend (upd fr g (.bool want)) op v f pend)) (stepOp P (upd fr g (.bool want)) S op))
      (vcD P K rest (putF (upd fr g (.bool (!want))) dst .und) S olds pend)
      (vcD P K rest (putF fr dst .und) S olds pend) x
theorem vcD_guard2 (g : Nat) (want : Bool) : vcD P K (⟨dst, some (g, want), op, false, b, f⟩ :: rest) fr S olds pend = vcDG P K dst op b f rest fr S olds pend g want (fr g) := vcD_guard ..
theorem vcDG_TT (g : Nat) : vcDG P K dst op b f rest fr S olds pend g true (.bool true) = vcDO P K dst op b f rest (upd fr g (.bool true)) S olds pend (stepOp P (upd fr g (.bool true)) S op) := by simp [vcDG, vcDGuard, vcDO]
theorem vcDG_FF (g : Nat) : vcDG P K dst op b f rest fr S olds pend g false (.bool false) = vcDO P K dst op b f rest (upd fr g (.bool false)) S olds pend (stepOp P (upd fr g (.bool false)) S op) := by simp [vcDG, vcDGuard, vcDO]
theorem vcDG_TF (g : Nat) : vcDG P K dst op b f rest fr S olds pend g true (.bool false) = vcD P K rest (putF (upd fr g (.bool false)) dst .und) S olds pend := by simp [vcDG, vcDGuard]
theorem vcDG_FT (g : Nat) : vcDG P K dst op b f rest fr S olds pend g false (.bool true) = vcD P K rest (putF (upd fr g (.bool true)) dst .und) S olds pend := by simp [vcDG, vcDGuard]
theorem vcDG_und (g : Nat) (want : Bool) : vcDG P K dst op b f rest fr S olds pend g want .und = vcD P K rest (putF fr dst .und) S olds pend := by simp [vcDG, vcDGuard]
theorem vcDG_Tdec (g : Nat) (p : Prop) [Decidable p] : vcDG P K dst op b f rest fr S olds pend g true (.bool (decide p)) = ((p → vcDO P K dst op b f rest (upd fr g (.bool true)) S olds pend (stepOp P (upd fr g (.bool true)) S op)) ∧ (¬ p → vcD P K rest (putF (upd fr g (.bool false)) dst .und) S olds pend)) := by
  by_cases h : p <;> simp [vcDG, vcDGuard, vcDO, h]
theorem vcDG_Fdec (g : Nat) (p : Prop) [Decidable p] : vcDG P K dst op b f rest fr S olds pend g false (.bool (decide p)) = ((p → vcD P K rest (putF (upd fr g (.bool true)) dst .und) S olds pend) ∧ (¬ p → vcDO P K dst op b f rest (upd fr g (.bool false)) S olds pend (stepOp P (upd fr g (.bool false)) S op))) := by
  by_cases h : p <;> simp [vcDG, vcDGuard, vcDO, h]
end

/-! ## The words of every walk, more -/
attribute [go_sem] vcDO_val vcDO_asks vcDO_st vcDG_TT vcDG_FF vcDG_TF vcDG_FT vcDG_und vcDG_Tdec vcDG_Fdec vcG2_bool vcG2_und vcGB_TT vcGB_FF vcGB_TF
attribute [go_sem] vcGB_FT vcGB_Tdec vcGB_Fdec vcC2_bool vcCB_T vcCB_F vcCB_dec
end Go.Proofs.YtajbeippbabhhaaGreatDoor.Eng

namespace Go.Proofs.YtajbeippbabhhaaGreatDoor.Eng
open Go

/-! ## A call that is put off, and takes a panic up -/
def RepM (μ : Mu) (M : Nat → Prop) (w : World) : Option AV → FrameMode → Prop
  | none, .returning => True
  | some v, .panicking ch => ∃ x, ch = [{ v := x, recovered := false }] ∧ Rep μ M w v x
  | _, _ => False
def ADef (P : Program) (g : FuncId) (args : List AV) (S : Store) (m : Option AV) (K : Store → Prop) : Prop :=
  ∀ μ w vs u, Repr μ S w → RepVals μ (Mut μ S) w args vs → RepM μ (Mut μ S) w m u →
    CallsD P g vs.toArray u w fun e u' w' => (∃ v, e = .returned v) ∧ settle u' = .returning ∧ ∃ μ' S', K S' ∧ Repr μ' S' w' ∧ Keeps μ (Mut μ S) w μ' (Mut μ' S') w'
def mV : Option AV → AV
  | none => .lit .nilIface
  | some v => v
def QDef (K : Store → Prop) : Qx := fun e fr S => match e with
  | .normal | .ret => K S
  | _ => False
section
variable {P : Program}

theorem ADef.mono {g args S m} {K K' : Store → Prop} (h : ADef P g args S m K) (hk : ∀ S, K S → K' S) : ADef P g args S m K' := fun μ w vs u h1 h2 h3 =>
  (h μ w vs u h1 h2 h3).mono fun e u' w' ⟨a1, a2, μ', S', a3, a4⟩ => ⟨a1, a2, μ', S', hk _ a3, a4⟩

theorem initFr_rep {μ M w} {args : List AV} {vs : List Value} (hv : RepVals μ M w args vs) (n : Nat) : FrRep μ M w (initFr args 0 fr0) { tmps := vs.toArray ++ Array.replicate (n - vs.toArray.size) undef, defers := [] } := by
  intro t
  rw [initFr_at, if_neg (by omega), Nat.sub_zero]
  have hlen := hv.length
  simp only [Array.getD_eq_getD_getElem?]
  cases hx : args[t]? with
  | some x =>
    obtain ⟨y, hy, hry⟩ := hv.at t x hx
    have : t < vs.length := get_lt hy
    have e : (vs.toArray ++ Array.replicate (n - vs.toArray.size) undef)[t]? = some y := by
      rw [Array.getElem?_append_left (by simpa using this)]
      simpa using hy
    rw [e]
    exact hry
  | none =>
    have h1 : args.length ≤ t := List.getElem?_eq_none_iff.1 hx
    have e : (vs.toArray ++ Array.replicate (n - vs.toArray.size) undef)[t]?.getD undef = undef := by
      rw [Array.getElem?_append_right (by simp; omega)]
      rw [Array.getElem?_replicate]
      split <;> rfl
    rw [e]
    simp only [fr0, Rep]

theorem adef_of_vc {g : FuncId} {fn : Func} {id : Nat} {o0 o1 : Oper} {c1 : Code} {lc : LCode} {d0 d1 : Nat} {args : List AV} {S : Store} {m : Option AV} {K : Store → Prop}
    (hf : P.funcs[g]? = some fn) (hb : fn.body = some (.seq (.region id #[o0, o1] false) c1)) (h0 : o0.op = .call { callee := .builtin .recover, args := #[], argTypes := #[] }) (g0 : o0.guard = none) (e0 : o0.dst = some d0)
    (h1 : o1.op = .assign (.tmp d0)) (g1 : o1.guard = none) (e1 : o1.dst = some d1) (l0 : d0 < fn.ntmps) (l1 : d1 < fn.ntmps) (hl : lowerC [] P fn.ntmps c1 = some lc) (hres : fn.results = #[]) (hle : args.length ≤ fn.ntmps)
    (h : vc P lc (QDef K) (upd (upd (initFr args 0 fr0) d0 (mV m)) d1 (mV m)) S) : ADef P g args S m K := by
  intro μ w vs u hr hv hm
  refine callsD_of_wpS hf hb fun c₀ cs hu => ?_
  have hlen := hv.length
  have hf0 := initFr_rep hv fn.ntmps
  have hmV : ∃ x, Rep μ (Mut μ S) w (mV m) x ∧ ∃ u1, settle u1 = .returning ∧ ((recoverD (c₀ :: cs) = none ∧ x = .nilIface ∧ u1 = c₀.mode) ∨ recoverD (c₀ :: cs) = some (x, { c₀ with mode := u1 } :: cs)) := by
    match m, u, hm with
    | none, .returning, _ => exact ⟨.nilIface, by simp [mV, Rep, one], .returning, rfl, .inl ⟨by simp [recoverD, hu], rfl, hu.symm⟩⟩
    | some v, .panicking ch, hm =>
      obtain ⟨x, rfl, hx⟩ := hm
      exact ⟨x, hx, .panicking [{ v := x, recovered := true }], rfl, .inr (by simp [recoverD, hu])⟩
  obtain ⟨x, hx, u1, hset, hrec⟩ := hmV
  have st : ∀ (a : Act) (fr : Fr), a.defers = [] → a.tmps.size = fn.ntmps → FrRep μ (Mut μ S) w fr a → (upd (upd (initFr args 0 fr0) d0 (mV m)) d1 (mV m)) = fr →
      c1.wpS P (bodyPostS P fn c₀ cs fun e u' w' => (∃ v, e = .returned v) ∧ settle u' = .returning ∧ ∃ μ' S', K S' ∧ Repr μ' S' w' ∧ Keeps μ (Mut μ S) w μ' (Mut μ' S') w') a ({ c₀ with mode := u1 } :: cs) w := by
    intro a fr hd hn hfr e
    subst e
    refine wpS_of_wp (wp_mono (vc_sound (n := fn.ntmps) (ds := []) c1 lc _ _ S μ w a hl h ⟨hr, hfr, hn, hd⟩) fun e a' w' ⟨μ', S', fr', z, b1, b2, b3, b4⟩ => ?_)
    have hrun : (results fn a'.tmps).run P w' = .ok (.tuple #[]) w' := by
      unfold results; rw [hres]; simp
    cases z with
    | normal =>
      cases e <;> first | exact b4.elim | skip
      exact ⟨b2.defers, u1, rfl, _, hrun, ⟨_, rfl⟩, hset, μ', S', b1, b2.repr, b3⟩
    | ret =>
      cases e <;> first | exact b4.elim | skip
      exact ⟨b2.defers, u1, rfl, _, hrun, ⟨_, rfl⟩, hset, μ', S', b1, b2.repr, b3⟩
    | pan v => exact b1.elim
    | exit i => exact b1.elim
  refine wpS_seq (wpS_region ?_)
  have hrange : List.range (#[o0, o1] : Array Oper).size = [0, 1] := rfl
  rw [hrange]
  have hrun0 : ∀ (ρ : Operand → Value), (execOp ρ o0).run P w = .ok .recover w := fun ρ => by simp [execOp, h0, resolve, invoke, builtin]
  have hw0 : ∀ y, Region.wanted o0 y = true := fun y => by simp [Region.wanted, g0]
  have hw1 : ∀ y, Region.wanted o1 y = true := fun y => by simp [Region.wanted, g1]
  have i0 : (#[o0, o1] : Array Oper)[0]? = some o0 := rfl
  have i1 : (#[o0, o1] : Array Oper)[1]? = some o1 := rfl
  have second : ∀ (a : Act), a.defers = [] → a.tmps.size = fn.ntmps → FrRep μ (Mut μ S) w (upd (initFr args 0 fr0) d0 (mV m)) a →
      wpOpsS P #[o0, o1] (Exit.thenS (c1.wpS P (bodyPostS P fn c₀ cs fun e u' w' => (∃ v, e = .returned v) ∧ settle u' = .returning ∧ ∃ μ' S', K S' ∧ Repr μ' S' w' ∧ Keeps μ (Mut μ S) w μ' (Mut μ' S') w'))
        (bodyPostS P fn c₀ cs fun e u' w' => (∃ v, e = .returned v) ∧ settle u' = .returning ∧ ∃ μ' S', K S' ∧ Repr μ' S' w' ∧ Keeps μ (Mut μ S) w μ' (Mut μ' S') w')) [1] a ({ c₀ with mode := u1 } :: cs) w := by
    intro a hd hn hfr
    simp only [wpOpsS, i1, hw1, if_true]
    have hrun1 : (execOp a.eval o1).run P w = .ok (.value (a.eval (.tmp d0))) w := by simp [execOp, h1]
    rw [hrun1]
    simp only [Oper.upon, Exit.thenS]
    have hfr1 : FrRep μ (Mut μ S) w (upd (upd (initFr args 0 fr0) d0 (mV m)) d1 (mV m)) (a.put o1.dst (a.eval (.tmp d0))) := by
      have := hfr.put (d := o1.dst) (v := mV m) (x := a.eval (.tmp d0)) (by rw [e1]; simp [dstOk, l1]) hn (by
        have := hfr d0
        rw [upd_same] at this
        exact this)
      rw [e1] at this
      rw [e1]
      exact this
    refine st _ _ ?_ ?_ hfr1 rfl
    · rw [e1]; simp only [Act.put]; exact hd
    · rw [e1]; simp [Act.put, hn]
  unfold wpOpsS
  simp only [i0, hw0, if_true, hrun0]
  have hfr0 : FrRep μ (Mut μ S) w (upd (initFr args 0 fr0) d0 (mV m)) (({ tmps := vs.toArray ++ Array.replicate (fn.ntmps - vs.toArray.size) undef, defers := [] } : Act).put o0.dst x) := by
    have := hf0.put (n := fn.ntmps) (d := o0.dst) (v := mV m) (x := x) (by rw [e0]; simp [dstOk, l0]) (by simp; omega) hx
    rw [e0] at this
    rw [e0]
    exact this
  have hp1 : ((({ tmps := vs.toArray ++ Array.replicate (fn.ntmps - vs.toArray.size) undef, defers := [] } : Act).put o0.dst x)).defers = [] := by rw [e0]; rfl
  have hp2 : ((({ tmps := vs.toArray ++ Array.replicate (fn.ntmps - vs.toArray.size) undef, defers := [] } : Act).put o0.dst x)).tmps.size = fn.ntmps := by rw [e0]; simp [Act.put]; omega
  have sec := second _ hp1 hp2 hfr0
  rcases hrec with ⟨hrec, rfl, hu1⟩ | hrec
  · rw [hrec]
    rw [hu1] at sec
    exact sec
  · rw [hrec]
    exact sec

/-! ## The function that puts it off -/
def QPut (P : Program) (g : FuncId) (caps : List AV) (rs : List LRes) (K : AEnd → Store → Prop) : Qx := fun e fr S => match e with
  | .normal | .ret => ADef P g caps S none fun S' => ∃ vs, resL S' fr rs = some vs ∧ K (.ret (pack vs)) S'
  | .pan v => ADef P g caps S (some v) fun S' => ∃ vs, resL S' fr rs = some vs ∧ K (.ret (pack vs)) S'
  | .exit _ => False
def QFst (P : Program) (l1 : LCode) (g : FuncId) (d : Nat) (caps : List LX) (rs : List LRes) (K : AEnd → Store → Prop) : Qx := fun e fr S => match e with
  | .normal => vc P l1 (QPut P g (caps.map (ev fr)) rs K) (upd fr d (.fn (.func g) (caps.map (ev fr)))) S
  | _ => False

theorem acalls_of_defer {f : FuncId} {fn : Func} {id : Nat} {o0 o1 : Oper} {c0 c1 : Code} {l0 l1 : LCode} {g : FuncId} {d : Nat} {caps : Array Operand} {lcaps : List LX} {rs : List LRes} {args : List AV} {S : Store} {K : AEnd → Store → Prop}
    (hf : P.funcs[f]? = some fn) (hb : fn.body = some (.seq c0 (.seq (.region id #[o0, o1] false) c1))) (hc0 : lowerC [] P fn.ntmps c0 = some l0) (hc1 : lowerC [] P fn.ntmps c1 = some l1) (hres : lowerRes P fn.results.toList = some rs)
    (h0 : o0.op = .makeFunc (.func g) #[] caps) (g0 : o0.guard = none) (e0 : o0.dst = some d) (hcaps : lowerXs caps.toList = some lcaps) (hbody : hasBody P g = true)
    (h1 : o1.op = .defer { callee := .value (.tmp d), args := #[], argTypes := #[] }) (g1 : o1.guard = none) (e1 : o1.dst = none) (ld : d < fn.ntmps) (hle : args.length ≤ fn.ntmps)
    (h : vc P l0 (QFst P l1 g d lcaps rs K) (initFr args 0 fr0) S) : ACalls P f args S K := by
  intro μ w vs hr hv
  have hlen := hv.length
  refine calls_of_wp_defers hf hb (wp_seq ?_)
  refine wp_mono (vc_sound (n := fn.ntmps) (ds := []) c0 l0 _ _ S μ w _ hc0 h ⟨hr, initFr_rep hv fn.ntmps, by simp; omega, rfl⟩) fun e a w1 ⟨μ1, S1, fr1, z, b1, b2, b3, b4⟩ => ?_
  cases z <;> first | exact b1.elim | skip
  cases e <;> first | exact b4.elim | skip
  simp only [QFst] at b1
  have hcv := lowerXs_sound b2.fr hcaps
  obtain ⟨capv, hcapv⟩ : ∃ capv : Array Value, capv = caps.map a.eval := ⟨_, rfl⟩
  have hcl : caps.toList.map a.eval = capv.toList := by rw [hcapv]; simp
  rw [hcl] at hcv
  have hrange : List.range (#[o0, o1] : Array Oper).size = [0, 1] := rfl
  have i0 : (#[o0, o1] : Array Oper)[0]? = some o0 := rfl
  have i1 : (#[o0, o1] : Array Oper)[1]? = some o1 := rfl
  have hw0 : ∀ y, Region.wanted o0 y = true := fun y => by simp [Region.wanted, g0]
  have hw1 : ∀ y, Region.wanted o1 y = true := fun y => by simp [Region.wanted, g1]
  have hrun0 : (execOp a.eval o0).run P w1 = .ok (.value (.func (.func g) #[] capv)) w1 := by simp [execOp, h0, Instr.makeFunc, hcapv]
  have hfn : Rep μ1 (Mut μ1 S1) w1 (.fn (.func g) (lcaps.map (ev fr1))) (.func (.func g) #[] capv) := by simp only [Rep]; exact ⟨capv, rfl, hcv⟩
  have hfr1 := b2.fr.put (d := o0.dst) (by rw [e0]; simp [dstOk, ld]) b2.size hfn
  have hsz1 : (a.put o0.dst (.func (.func g) #[] capv)).tmps.size = fn.ntmps := by rw [e0]; simp [Act.put, b2.size]
  have hdf1 : (a.put o0.dst (.func (.func g) #[] capv)).defers = [] := by rw [e0]; exact b2.defers
  have hev1 : (a.put o0.dst (.func (.func g) #[] capv)).eval (.tmp d) = .func (.func g) #[] capv := by
    rw [e0]
    simp [Act.eval, Act.put, Array.getD_eq_getD_getElem?, b2.size, ld]
  rw [e0] at hfr1
  generalize hA : a.put o0.dst (.func (.func g) #[] capv) = A at hsz1 hdf1 hev1
  rw [← e0, hA] at hfr1
  have hrun1 : (execOp A.eval o1).run P w1 = .ok (.defer { target := .fn (.func g) capv, args := #[] }) w1 := by
    simp [execOp, h1, resolve, hev1, Deferred.ofValue]
  refine wp_seq (wp_region ?_)
  rw [hrange]
  simp only [wpOps, i0, i1, hw0, hw1, if_true, Oper.wp, hrun0, Oper.upon_value, hA, hrun1, Oper.upon_defer]
  refine .inl (.inl ?_)
  simp only [Exit.then, hdf1, e1, Act.put]
  rw [e0] at hfr1
  refine wp_mono (vc_sound (n := fn.ntmps) (ds := [{ target := .fn (.func g) capv, args := #[] }]) c1 l1 _ _ S1 μ1 w1 _ hc1 b1 ⟨b2.repr, hfr1, hsz1, rfl⟩) fun e2 a2 w2 ⟨μ2, S2, fr2, z, q1, q2, q3, q4⟩ => ?_
  have hcv2 := RepVals.keep q3 _ _ hcv
  have hinv : (invoke (.fn (.func g) capv) #[]).run P w2 = .ok (.enter g capv) w2 := by
    simp [invoke, run_callFunc hbody]
  have fin : ∀ (m : Option AV) (u : FrameMode), u ≠ .run → RepM μ2 (Mut μ2 S2) w2 m u → ADef P g (lcaps.map (ev fr1)) S2 m (fun S' => ∃ vs, resL S' fr2 rs = some vs ∧ K (.ret (pack vs)) S') →
      Leaves P fn a2.tmps (fun e w' => ∃ μ' S' r, K r S' ∧ Repr μ' S' w' ∧ Keeps μ (Mut μ S) w μ' (Mut μ' S') w' ∧ RepEnd μ' (Mut μ' S') w' r e) [{ target := .fn (.func g) capv, args := #[] }] u w2 := by
    intro m u hu hm had
    refine leaves_cons hu hinv ?_
    have := had μ2 w2 capv.toList u q2.repr hcv2 hm
    simp only [Array.toArray_toList] at this
    refine this.mono fun e3 u3 w3 ⟨⟨v3, hv3⟩, hset, μ3, S3, ⟨vs3, r1, r2⟩, r3, r4⟩ => ?_
    subst hv3
    simp only [hset]
    obtain ⟨y, y1, y2⟩ := results_sound (fn := fn) r3 (q2.fr.keep r4) hres r1
    exact ⟨y, y1, μ3, S3, _, r2, r3, b3.trans (q3.trans r4), y2⟩
  cases z with
  | normal =>
    cases e2 <;> first | exact q4.elim | skip
    simp only [bodyPostD, q2.defers]
    exact fin none .returning (by simp) trivial q1
  | ret =>
    cases e2 <;> first | exact q4.elim | skip
    simp only [bodyPostD, q2.defers]
    exact fin none .returning (by simp) trivial q1
  | pan v =>
    cases e2 <;> first | exact q4.elim | skip
    obtain ⟨x, hx1, hx2⟩ := q4
    simp only [bodyPostD, q2.defers]
    exact fin (some v) _ (by simp) ⟨x, hx1, hx2⟩ q1
  | exit i => exact q1.elim
end
/-- The parts of such functions, lowered. -/
def partA (P : Program) (f : FuncId) : Option LCode := match P.funcs[f]? with
  | some fn => match fn.body with
    | some (.seq c0 (.seq _ _)) => lowerC [] P fn.ntmps c0
    | _ => none
  | none => none
def partB (P : Program) (f : FuncId) : Option LCode := match P.funcs[f]? with
  | some fn => match fn.body with
    | some (.seq _ (.seq _ c1)) => lowerC [] P fn.ntmps c1
    | _ => none
  | none => none
def partD (P : Program) (f : FuncId) : Option LCode := match P.funcs[f]? with
  | some fn => match fn.body with
    | some (.seq _ c1) => lowerC [] P fn.ntmps c1
    | _ => none
  | none => none
end Go.Proofs.YtajbeippbabhhaaGreatDoor.Eng

namespace Go.Proofs.YtajbeippbabhhaaGreatDoor.Eng
open Go

/-! ## A variable that nobody writes any more is given up: it is read still -/
mutual
def bz (l : Nat) (cs : List AV) : AV → AV
  | .ptr l' off => if l' = l then .rop cs off else .ptr l' off
  | .fn f cap => .fn f (bzL l cs cap)
  | .agg xs => .agg (bzL l cs xs)
  | .tup xs => .tup (bzL l cs xs)
  | v => v
def bzL (l : Nat) (cs : List AV) : List AV → List AV
  | [] => []
  | x :: xs => bz l cs x :: bzL l cs xs
end
section
variable {μ : Mu} {S : Store} {w : World} {l : Nat} {t : TypeId} {cs : List AV}
mutual
theorem bz_sound (hr : Repr μ S w) (hl : S.get l = some (.box t cs)) : ∀ (x : AV) (v : Value), Rep μ (Mut μ S) w x v → Rep μ (Mut μ (S.set l none)) w (bz l cs x) v
  | .ptr r off, v, h => by
    simp only [bz]
    by_cases e : r = l
    · subst e
      simp only [if_true]
      simp only [Rep] at h
      obtain ⟨c, hc, hv⟩ := h
      obtain ⟨c', hc', ho⟩ := hr.objs r _ hl
      rw [hc] at hc'; cases hc'
      obtain ⟨arr, a1, a2, a3⟩ := ho
      have hnm : ¬ Mut μ (S.set r none) c.block := by
        rintro ⟨j, o, d, e1, e2, e3⟩
        rw [Store.get_set] at e1
        by_cases ej : j = r
        · rw [if_pos ej] at e1; cases e1
        · rw [if_neg ej] at e1; exact ej (hr.inj j r o _ d c e1 hl e2 hc e3)
      have k : Keeps μ (Mut μ S) w μ (Mut μ (S.set r none)) w := (hr.drop (T := S.set r none) (drop_one S r) (Nat.le_refl _)).2
      simp only [Rep]
      refine ⟨c.block, 0, heap_lt a1, hnm, by rw [hv, Nat.zero_add], ?_⟩
      exact (repCells_of_block a1 a3 cs 0 arr.toList (fun j hj => by rw [Nat.zero_add]) a2).weak k
    · simp only [if_neg e]
      simp only [Rep] at h ⊢
      exact h
  | .fn f cap, v, h => by
    simp only [bz, Rep] at h ⊢
    obtain ⟨vs, e, h1⟩ := h
    exact ⟨vs, e, bzL_sound hr hl cap _ h1⟩
  | .agg xs, v, h => by
    simp only [bz, Rep] at h ⊢
    obtain ⟨vs, e, h1, h2⟩ := h
    exact ⟨vs, e, bzL_sound hr hl xs _ h1, h2⟩
  | .tup xs, v, h => by
    simp only [bz, Rep] at h ⊢
    obtain ⟨vs, e, h1⟩ := h
    exact ⟨vs, e, bzL_sound hr hl xs _ h1⟩
  | .int _ _, v, h | .bool _, v, h | .str _, v, h | .lit _, v, h | .own _ _ _, v, h | .rptr _ _ _, v, h | .rop _ _, v, h | .sl _ _ _, v, h | .mp _, v, h | .ifc _ _, v, h | .und, v, h | .junk, v, h => by
    simp only [bz]
    exact h.keep (hr.drop (T := S.set l none) (drop_one S l) (Nat.le_refl _)).2
theorem bzL_sound (hr : Repr μ S w) (hl : S.get l = some (.box t cs)) : ∀ (x : List AV) (v : List Value), RepVals μ (Mut μ S) w x v → RepVals μ (Mut μ (S.set l none)) w (bzL l cs x) v
  | [], v, h => by simpa only [bzL, RepVals] using h
  | c :: xs, v, h => by
    simp only [bzL, RepVals] at h ⊢
    obtain ⟨x, ys, e, h1, h2⟩ := h
    exact ⟨x, ys, e, bz_sound hr hl c x h1, bzL_sound hr hl xs ys h2⟩
end
theorem Turn.freezeB {n0 vs} (hl : S.get l = some (.box t cs)) : Turn n0 vs S (bzL l cs vs) (S.set l none) := fun μ w xs h1 h2 =>
  ⟨μ, (h1.drop (drop_one S l) (Nat.le_refl _)).1, fun _ _ _ h => h, fun b ⟨j, o, c, e1, e2⟩ => ⟨j, o, c, drop_one S l _ _ e1, e2⟩, bzL_sound h1 hl vs xs h2⟩
end

theorem Pure.ofBox {P : Program} {f : FuncId} {args : List AV} {v : AV} (hn : ∀ n, nmL n args → nm n v)
    (h : ∀ S, ACalls P f args S fun r S' => Ext S S' ∧ ∃ k t cs v0, S.n ≤ k ∧ r = .ret v0 ∧ S'.get k = some (.box t cs) ∧ bz k cs v0 = v) : Pure P f args v := fun S => by
  refine ACalls.wf fun hwf hna => (h S).turn fun r S' ⟨h1, k, t, cs, v0, hk, hr, hg, hv⟩ => ?_
  subst hr
  have t1 := Turn.freezeB (n0 := S.n) (vs := [v0]) hg
  simp only [bzL, hv] at t1
  have hE := h1.set k none hk
  refine ⟨v, S, Turn.trans t1 (Turn.reset hE.n (Nat.le_refl _) (fun l o e => ?_) (by simp only [nmL]; exact ⟨hn _ hna, trivial⟩)), rfl, rfl⟩
  obtain ⟨a1, a2⟩ := hwf l o e
  exact ⟨by rw [hE.get l a1]; exact e, a1, a2⟩

/-! ## A cut within a region -/
theorem vcGrps_app {P : Program} {K : Fr → Store → Prop} {E : AV → Fr → Store → Prop} {l2 : List LGrp} : ∀ (l1 : List LGrp) (fr : Fr) (S : Store), vcGrps P (fun fr S => vcGrps P K E l2 fr S) E l1 fr S → vcGrps P K E (l1 ++ l2) fr S
  | [], fr, S, h => h
  | ⟨none, ops⟩ :: l, fr, S, h => by
    rw [List.cons_append, vcGrps_cons]
    rw [vcGrps_cons] at h
    exact vcOps_mono (fun fr S => vcGrps_app l fr S) (fun _ _ _ h => h) ops fr S h
  | ⟨some (g, want), ops⟩ :: l, fr, S, h => by
    rw [List.cons_append, vcGrps_guard]
    rw [vcGrps_guard] at h
    unfold vcGuard at h ⊢
    split at h
    · exact ⟨fun e => vcOps_mono (fun fr S => vcGrps_app l fr S) (fun _ _ _ h => h) ops _ S (h.1 e), fun e => vcGrps_app l _ S (h.2 e)⟩
    · exact vcGrps_app l _ S h
    · exact h
theorem vcGrps_cut2 {P : Program} {K : Fr → Store → Prop} {E : AV → Fr → Store → Prop} {g1 g2 : LGrp} {rest : List LGrp} {fr : Fr} {S : Store} (R : Fr → Store → Prop) (h1 : vcGrps P R E [g1, g2] fr S) (h2 : ∀ fr S, R fr S → vcGrps P K E rest fr S) : vcGrps P K E (g1 :: g2 :: rest) fr S :=
  vcGrps_app [g1, g2] fr S (vcGrps_mono h2 (fun _ _ _ h => h) _ fr S h1)
theorem vcGrps_cut1 {P : Program} {K : Fr → Store → Prop} {E : AV → Fr → Store → Prop} {g1 : LGrp} {rest : List LGrp} {fr : Fr} {S : Store} (R : Fr → Store → Prop) (h1 : vcGrps P R E [g1] fr S) (h2 : ∀ fr S, R fr S → vcGrps P K E rest fr S) : vcGrps P K E (g1 :: rest) fr S :=
  vcGrps_app [g1] fr S (vcGrps_mono h2 (fun _ _ _ h => h) _ fr S h1)

/-! ## A new variable is told, under the next name -/
def canMu (n k : Nat) (μ : Mu) : Mu := fun l => if l < n then μ l else if l = n then μ k else none
theorem Turn.canon {S T0 : Store} {k off : Nat} {o : AObj} (hk : T0.n ≤ k) (hS : S.get k = some o) (ho : nmO T0.n o) (hT : ∀ l o, T0.get l = some o → S.get l = some o ∧ l < T0.n ∧ nmO T0.n o) :
    Turn T0.n [.ptr k off] S [.ptr T0.n off] (T0.push o) := fun μ w xs h1 h2 => by
  obtain ⟨ck, hck, hok⟩ := h1.objs k o hS
  have lt : ∀ {l c}, l < T0.n → canMu T0.n k μ l = some c → μ l = some c := fun hl hc => by simpa only [canMu, if_pos hl] using hc
  have at' : canMu T0.n k μ T0.n = some ck := by simp [canMu, hck]
  have back : ∀ l x c, (T0.push o).get l = some x → canMu T0.n k μ l = some c → ∃ j, ((l = T0.n ∧ j = k) ∨ (l < T0.n ∧ j = l)) ∧ S.get j = some x ∧ μ j = some c := by
    intro l x c e1 e2
    by_cases e : l = T0.n
    · subst e
      rw [Store.get_push_same] at e1; cases e1
      rw [at'] at e2; cases e2
      exact ⟨k, .inl ⟨rfl, rfl⟩, hS, hck⟩
    · rw [Store.get_push_ne _ _ e] at e1
      obtain ⟨a1, a2, a3⟩ := hT l x e1
      exact ⟨l, .inr ⟨a2, rfl⟩, a1, lt a2 e2⟩
  have hM : ∀ b, Mut (canMu T0.n k μ) (T0.push o) b → Mut μ S b := by
    rintro b ⟨l, x, c, e1, e2, e3⟩
    obtain ⟨j, _, a1, a2⟩ := back l x c e1 e2
    exact ⟨j, x, c, a1, a2, e3⟩
  have kp : Keeps (cutMu T0.n μ) (Mut μ S) w (canMu T0.n k μ) (Mut (canMu T0.n k μ) (T0.push o)) w :=
    ⟨fun l c hl => (by
      unfold cutMu at hl
      split at hl
      · rename_i h; simp only [canMu, if_pos h]; exact hl
      · cases hl), fun b _ m => hM b m, Nat.le_refl _, fun _ _ _ => rfl, rfl, rfl, rfl⟩
  refine ⟨canMu T0.n k μ, ⟨fun l x e => ?_, fun l l' x x' c c' e1 e2 e3 e4 e5 => ?_, fun l c hc => ?_⟩, fun l c hl hc => by simp only [canMu, if_pos hl]; exact hc, hM, ?_⟩
  · by_cases el : l = T0.n
    · subst el
      rw [Store.get_push_same] at e; cases e
      exact ⟨ck, at', (hok.cut T0.n ho).keep kp rfl⟩
    · rw [Store.get_push_ne _ _ el] at e
      obtain ⟨a1, a2, a3⟩ := hT l x e
      obtain ⟨c, h3, h4⟩ := h1.objs l x a1
      exact ⟨c, by simp only [canMu, if_pos a2]; exact h3, (h4.cut T0.n a3).keep kp rfl⟩
  · obtain ⟨j, hj, a1, a2⟩ := back l x c e1 e3
    obtain ⟨j', hj', b1, b2⟩ := back l' x' c' e2 e4
    have := h1.inj j j' x x' c c' a1 b1 a2 b2 e5
    rcases hj with ⟨p1, p2⟩ | ⟨p1, p2⟩ <;> rcases hj' with ⟨q1, q2⟩ | ⟨q1, q2⟩ <;> omega
  · rw [Store.n_push]
    unfold canMu at hc
    split at hc
    · omega
    · split at hc
      · omega
      · cases hc
  · simp only [RepVals, Rep] at h2 ⊢
    obtain ⟨x, _, e, ⟨c, e1, e2⟩, rfl⟩ := h2
    exact ⟨x, [], e, ⟨c, by rw [at', ← hck]; exact e1, e2⟩, rfl⟩

/-- What a call does, outright. -/
def Det (P : Program) (f : FuncId) (args : List AV) (S : Store) (r : AEnd) (S1 : Store) : Prop := ACalls P f args S fun r' S' => r' = r ∧ S' = S1
theorem Det.use {P f args S r S1} {K : AEnd → Store → Prop} (h : Det P f args S r S1) (k : K r S1) : ACalls P f args S K := ACalls.mono h fun r' S' ⟨h1, h2⟩ => by subst h1; subst h2; exact k
theorem Pure.det {P f args v} (h : Pure P f args v) (S : Store) : Det P f args S (.ret v) S := h S

/-- The names are given back; what stands in `T` is left. -/
theorem Det.of {P : Program} {f : FuncId} {args : List AV} {S T : Store} {r : AEnd} (hn : T.n = S.n) (hwf : WF S → WF T) (hr : nmL S.n args → nm S.n r.val)
    (h : WF S → ACalls P f args S fun r' S' => r' = r ∧ S.n ≤ S'.n ∧ ∀ l, l < S.n → S'.get l = T.get l) : Det P f args S r T :=
  ACalls.wf fun hw hna => (h hw).turn fun r' S' ⟨h1, h2, h3⟩ => by
    subst h1
    refine ⟨r'.val, T, Turn.reset (by omega) (by omega) (fun l o e => ?_) (by simp only [nmL]; rw [hn]; exact ⟨hr hna, trivial⟩), by cases r' <;> exact ⟨rfl, rfl⟩⟩
    obtain ⟨a1, a2⟩ := hwf hw l o e
    exact ⟨by rw [h3 l (by omega)]; exact e, a1, a2⟩
theorem Det.same {P : Program} {f : FuncId} {args : List AV} {S : Store} {r : AEnd} (hr : nmL S.n args → nm S.n r.val) (h : WF S → ACalls P f args S fun r' S' => r' = r ∧ Ext S S') : Det P f args S r S :=
  Det.of rfl (fun h => h) hr fun hw => ACalls.mono (h hw) fun r' S' ⟨h1, h2⟩ => ⟨h1, h2.n, h2.get⟩
theorem Det.new {P : Program} {f : FuncId} {args : List AV} {S : Store} {o : AObj} (ho : nmL S.n args → nmO S.n o)
    (h : WF S → ACalls P f args S fun r' S' => Ext S S' ∧ ∃ k, S.n ≤ k ∧ r' = .ret (.ptr k 0) ∧ S'.get k = some o) : Det P f args S (.ret (.ptr S.n 0)) (S.push o) :=
  ACalls.wf fun hw hna => (h hw).turn fun r' S' ⟨h1, k, h2, h3, h4⟩ => by
    subst h3
    refine ⟨_, _, Turn.canon h2 h4 (ho hna) (fun l o e => ?_), rfl, rfl⟩
    obtain ⟨a1, a2⟩ := hw l o e
    exact ⟨by rw [h1.get l a1]; exact e, a1, a2⟩
end Go.Proofs.YtajbeippbabhhaaGreatDoor.Eng

namespace Go.Proofs.YtajbeippbabhhaaGreatDoor.Eng
open Go

/-- An element; `ext`: what stands in its list behind its length. -/
inductive Elem where
  | mk (cls tag : Int) (cons : Bool) (bytes : List UInt8) (kids : List Elem) (ext : List (List AV))

mutual
def encE : Elem → List AV
  | .mk c t k b ks ext => [.int .i64 c, .int .i64 t, .bool k, .str b, .sl 5 (encEs ks ++ ext) ks.length]
def encEs : List Elem → List (List AV)
  | [] => []
  | e :: es => encE e :: encEs es
end
theorem encEs_length : ∀ (es : List Elem), (encEs es).length = es.length
  | [] => rfl
  | e :: es => by simp only [encEs, List.length_cons, encEs_length es]
theorem encEs_get : ∀ (es : List Elem) (i : Nat) (e : Elem), es[i]? = some e → (encEs es)[i]? = some (encE e)
  | e :: es, 0, x, h => by simp at h; subst h; simp [encEs]
  | e :: es, i + 1, x, h => by simp only [List.getElem?_cons_succ] at h; simp only [encEs, List.getElem?_cons_succ]; exact encEs_get es i x h
theorem encEs_at (es : List Elem) (ext : List (List AV)) (i : Nat) (e : Elem) (h : es[i]? = some e) : (encEs es ++ ext)[i]? = some (encE e) := by
  have h1 := encEs_get es i e h
  have : i < (encEs es).length := (List.getElem?_eq_some_iff.1 h1).1
  rw [List.getElem?_append_left this, h1]
theorem encEs_take (es : List Elem) (ext : List (List AV)) : (encEs es ++ ext).take es.length = encEs es := by
  rw [← encEs_length es]; exact List.take_left ..

def Elem.cls : Elem → Int | .mk c _ _ _ _ _ => c
def Elem.tag : Elem → Int | .mk _ t _ _ _ _ => t
def Elem.cons : Elem → Bool | .mk _ _ k _ _ _ => k
def Elem.bytes : Elem → List UInt8 | .mk _ _ _ b _ _ => b
def Elem.kids : Elem → List Elem | .mk _ _ _ _ ks _ => ks
def Elem.ext : Elem → List (List AV) | .mk _ _ _ _ _ x => x
theorem encE_eta (e : Elem) : encE e = [.int .i64 e.cls, .int .i64 e.tag, .bool e.cons, .str e.bytes, .sl 5 (encEs e.kids ++ e.ext) e.kids.length] := by
  cases e; simp only [encE, Elem.cls, Elem.tag, Elem.cons, Elem.bytes, Elem.kids, Elem.ext]

theorem Elem.ind {p : Elem → Prop} (h : ∀ e, (∀ k ∈ e.kids, p k) → p e) : ∀ e, p e := fun e =>
  Elem.rec (motive_1 := p) (motive_2 := fun ks => ∀ k ∈ ks, p k) (fun c t k b ks ext ih => h _ ih) (by simp) (fun e es h1 h2 k hk => by
    rcases List.mem_cons.1 hk with rfl | hk
    · exact h1
    · exact h2 k hk) e

theorem encE_length (e : Elem) : (encE e).length = 5 := by rw [encE_eta]; rfl
theorem encE_take5 (e : Elem) : (encE e).take 5 = encE e := by rw [encE_eta]; rfl
theorem encE_take1 (e : Elem) : (encE e).take 1 = [.int .i64 e.cls] := by rw [encE_eta]; rfl
theorem encE_drop1 (e : Elem) : (encE e).drop 1 = [.int .i64 e.tag, .bool e.cons, .str e.bytes, .sl 5 (encEs e.kids ++ e.ext) e.kids.length] := by rw [encE_eta]; rfl
theorem encE_drop2 (e : Elem) : (encE e).drop 2 = [.bool e.cons, .str e.bytes, .sl 5 (encEs e.kids ++ e.ext) e.kids.length] := by rw [encE_eta]; rfl
theorem encE_drop3 (e : Elem) : (encE e).drop 3 = [.str e.bytes, .sl 5 (encEs e.kids ++ e.ext) e.kids.length] := by rw [encE_eta]; rfl
theorem encE_drop4 (e : Elem) : (encE e).drop 4 = [.sl 5 (encEs e.kids ++ e.ext) e.kids.length] := by rw [encE_eta]; rfl
theorem splice_encE (a b c d f : AV) (e : Elem) : splice [a, b, c, d, f] 0 (encE e) = encE e := by rw [encE_eta]; rfl
end Go.Proofs.YtajbeippbabhhaaGreatDoor.Eng

namespace Go.Proofs.YtajbeippbabhhaaGreatDoor.Eng
open Go Go.WideShapes Go.ChangeShapes Go.RowKit

/-! ## What a reading says, as values of the engine's -/
def TypedL (T : TypeId → List AV → Prop) : List TypeId → List AV → Prop
  | [], avs => avs = []
  | t :: ts, avs => ∃ a b, avs = a ++ b ∧ T t a ∧ TypedL T ts b
def Typed (P : Program) : Nat → TypeId → List AV → Prop
  | 0, _, _ => False
  | fuel + 1, t, avs => match P.underlying t with
    | some .bool => ∃ b, avs = [.bool b]
    | some (.int k) => ∃ n, avs = [.int k n] ∧ (Lit.int k n).wf = true
    | some .string => ∃ l : List UInt8, avs = [.str l] ∧ l.length ≤ reachBytes
    | some (.slice e) => ∃ es : List (List AV), avs = [.sl (P.cellsOf e) es es.length] ∧ es.length * P.bytesOf e ≤ reachBytes ∧ (∀ x ∈ es, Typed P fuel e x)
    | some (.struct fs) => TypedL (Typed P fuel) (fs.toList.map (·.type)) avs
    | _ => False

/-- These types lead to no others, and to what is told here alone. -/
def closedB (P : Program) (T : List TypeId) : Bool := T.all fun t => match P.underlying t with
  | some .bool | some (.int _) | some .string => P.cellsOf t == 1
  | some (.slice e) => T.contains e && decide (0 < P.cellsOf e) && decide (0 < P.bytesOf e) && P.cellsOf t == 1
  | some (.struct fs) => (fs.toList.all fun f => T.contains f.type) && P.cellsOf t == (fs.toList.map fun f => P.cellsOf f.type).sum &&
      (List.range fs.toList.length).all fun j => match fs.toList[j]? with | some f => f.offset == ((fs.toList.take j).map fun f => P.cellsOf f.type).sum | none => true
  | _ => false

section
variable {H : Type} {enc : TypeId × Value → H} {P : Program} {W : World} {μ : Mu}

def M0 : Nat → Prop := fun _ => False

theorem repVals_app {M : Nat → Prop} : ∀ (a b : List AV) (xs ys : List Value), RepVals μ M W a xs → RepVals μ M W b ys → RepVals μ M W (a ++ b) (xs ++ ys)
  | [], b, xs, ys, h, k => by simp only [RepVals] at h; subst h; simpa using k
  | c :: a, b, xs, ys, h, k => by
    simp only [RepVals] at h
    obtain ⟨x, xs', rfl, h1, h2⟩ := h
    simp only [List.cons_append, RepVals]
    exact ⟨x, xs' ++ ys, rfl, h1, repVals_app a b xs' ys h2 k⟩

theorem fields_rep {fs : List Field} {n : Nat} (ihf : ∀ t cs x, (∃ f ∈ fs, f.type = t) → DataW.trod enc P W 0 (fun _ => true) true n t cs = some x → (DataW.weights P t x.1).all (· ≤ reachBytes) = true →
      ∃ avs, Typed P n t avs ∧ RepVals μ M0 W avs cs ∧ (∀ c ∈ cs, one c = true)) :
    ∀ (gs : List Field) (pre : List Field) (cs : List Value) (xs : List (DataW H × List MemPlace)), fs = pre ++ gs → cs.length = (fs.map fun f => P.cellsOf f.type).sum →
      (∀ (j : Nat) (f : Field), gs[j]? = some f → f.offset = ((pre ++ gs.take j).map fun f => P.cellsOf f.type).sum) →
      (∀ (j : Nat) (f : Field), gs[j]? = some f → DataW.trod enc P W 0 (fun _ => true) true n f.type ((cs.drop f.offset).take (P.cellsOf f.type)) = xs[j]?) → xs.length = gs.length →
      (DataW.weightsEach P (gs.map (·.type)) (xs.map (·.1))).all (· ≤ reachBytes) = true →
      ∃ avs, TypedL (Typed P n) (gs.map (·.type)) avs ∧ RepVals μ M0 W avs (cs.drop (pre.map fun f => P.cellsOf f.type).sum) ∧ (∀ c ∈ cs.drop (pre.map fun f => P.cellsOf f.type).sum, one c = true)
  | [], pre, cs, xs, hfs, hlen, hoff, htr, hxl, hw => by
    subst hfs
    refine ⟨[], rfl, ?_, ?_⟩
    · rw [List.drop_eq_nil_of_le (by rw [hlen]; simp)]; simp only [RepVals]
    · rw [List.drop_eq_nil_of_le (by rw [hlen]; simp)]; simp
  | g :: gs, pre, cs, xs, hfs, hlen, hoff, htr, hxl, hw => by
    cases xs with
    | nil => simp at hxl
    | cons x xs =>
      have h0 := htr 0 g rfl
      have o0 := hoff 0 g rfl
      simp only [List.take_zero, List.append_nil] at o0
      simp only [List.getElem?_cons_zero] at h0
      simp only [List.map_cons, DataW.weightsEach, List.all_append, Bool.and_eq_true] at hw
      obtain ⟨a, ha1, ha2, ha3⟩ := ihf g.type _ x ⟨g, by rw [hfs]; simp, rfl⟩ h0 hw.1
      obtain ⟨b, hb1, hb2, hb3⟩ := fields_rep ihf gs (pre ++ [g]) cs xs (by rw [hfs]; simp) hlen (fun j f hj => by have := hoff (j + 1) f hj; simpa using this) (fun j f hj => by have := htr (j + 1) f hj; simpa using this) (by simpa using hxl) hw.2
      have hsum : ((pre ++ [g]).map fun f => P.cellsOf f.type).sum = g.offset + P.cellsOf g.type := by rw [o0]; simp
      rw [hsum] at hb2 hb3
      rw [← o0]
      have hsplit : cs.drop g.offset = (cs.drop g.offset).take (P.cellsOf g.type) ++ cs.drop (g.offset + P.cellsOf g.type) := by
        rw [← List.drop_drop]; exact (List.take_append_drop _ _).symm
      refine ⟨a ++ b, ⟨a, b, rfl, ha1, hb1⟩, ?_, ?_⟩
      · rw [hsplit]; exact repVals_app _ _ _ _ ha2 hb2
      · rw [hsplit]; intro c hc
        rcases List.mem_append.1 hc with hc | hc
        · exact ha3 c hc
        · exact hb3 c hc

theorem cells_rep (b : Nat) : ∀ (avs : List AV) (cs : List Value) (o : Nat), RepVals μ M0 W avs cs → (∀ c ∈ cs, one c = true) → (∀ i, i < cs.length → W.cell? ⟨b, o + i, none⟩ = cs[i]?) → RepCells μ M0 W avs b o
  | [], cs, o, _, _, _ => by simp only [RepCells]
  | a :: avs, cs, o, h, h1, h2 => by
    simp only [RepVals] at h
    obtain ⟨x, xs, rfl, h3, h4⟩ := h
    simp only [RepCells]
    refine ⟨⟨x, by simpa using h2 0 (by simp), h1 x (by simp), h3⟩, cells_rep b avs xs (o + 1) h4 (fun c hc => h1 c (by simp [hc])) fun i hi => ?_⟩
    have := h2 (i + 1) (by simp; omega)
    rw [show o + 1 + i = o + (i + 1) by omega]; simpa using this

theorem row_rep (b s : Nat) : ∀ (es : List (List AV)) (o : Nat), (∀ i x, es[i]? = some x → RepCells μ M0 W x b (o + i * s)) → RepRow μ M0 W s es b o
  | [], o, _ => by simp only [RepRow]
  | e :: es, o, h => by
    simp only [RepRow]
    refine ⟨by simpa using h 0 e rfl, row_rep b s es (o + s) fun i x hx => ?_⟩
    have := h (i + 1) x (by simpa using hx)
    rw [show o + (i + 1) * s = o + s + i * s by rw [Nat.add_mul]; omega] at this
    exact this



theorem weightsAll_mem {e : TypeId} : ∀ {ds : List (DataW H)} {p : Nat → Bool}, (DataW.weightsAll P e ds).all p = true → ∀ d ∈ ds, (DataW.weights P e d).all p = true
  | [], _, _, d, hd => by simp at hd
  | x :: ds, p, h, d, hd => by
    simp only [DataW.weightsAll, List.all_append, Bool.and_eq_true] at h
    rcases List.mem_cons.1 hd with rfl | hd
    · exact h.1
    · exact weightsAll_mem h.2 d hd

theorem trod_rep {T : List TypeId} (hT : closedB P T = true) : ∀ (fuel : Nat) (t : TypeId) (cs : List Value) (x : DataW H × List MemPlace), t ∈ T →
    DataW.trod enc P W 0 (fun _ => true) true fuel t cs = some x → (DataW.weights P t x.1).all (· ≤ reachBytes) = true →
    ∃ avs, Typed P fuel t avs ∧ RepVals μ M0 W avs cs ∧ (∀ c ∈ cs, one c = true)
  | 0, t, cs, x, _, h, _ => by simp [DataW.trod] at h
  | fuel + 1, t, cs, x, ht, h, hw => by
    have hc := (List.all_eq_true.1 hT) t ht
    simp only [Typed]
    split at hc
    · rename_i hu
      obtain ⟨b, rfl, rfl⟩ := DataW.trod_bool hu h
      exact ⟨[.bool b], by simp [hu], by simp only [RepVals, Rep]; exact ⟨_, [], rfl, rfl, rfl⟩, by simp [one]⟩
    · rename_i k hu
      obtain ⟨n, rfl, rfl, hwf⟩ := DataW.trod_int hu h
      exact ⟨[.int k n], by simp [hu, hwf], by simp only [RepVals, Rep]; exact ⟨_, [], rfl, rfl, rfl⟩, by simp [one]⟩
    · rename_i hu
      obtain ⟨s, rfl, rfl, hm⟩ := DataW.trod_string hu h
      have hle : s.data.toList.length ≤ reachBytes := by simpa [DataW.weights] using hw
      refine ⟨[.str s.data.toList], by simp [hu]; simpa using hle, ?_, by simp [one]⟩
      simp only [RepVals, Rep]
      refine ⟨_, [], rfl, ⟨?_, ?_⟩, rfl⟩
      · simp [strV]
      · unfold strMax; unfold maxLen at hm; have : s.data.toList.length = s.size := by simp
        omega
    · rename_i e hu
      simp only [Bool.and_eq_true, decide_eq_true_eq, beq_iff_eq, List.contains_iff_mem] at hc
      obtain ⟨⟨⟨he, hce⟩, hbe⟩, _⟩ := hc
      rcases DataW.trod_slice hu h with ⟨rfl, rfl⟩ | ⟨a, len, cap, elems, rest, n, hn, rfl, rfl, _, hl, hm, hlen, hel, _, _⟩
      · refine ⟨[.sl (P.cellsOf e) [] 0], ?_, ?_, by simp [one]⟩
        · exact ⟨[], rfl, by simp, by simp⟩
        · simp only [RepVals]
          exact ⟨_, [], rfl, Wk.nil _ _ _ _ _ (by simp [Rep, one]), rfl⟩
      · obtain rfl : n = fuel := by omega
        simp only [DataW.weights, hu, List.all_cons, List.all_append, Bool.and_eq_true, decide_eq_true_eq, List.length_map] at hw
        obtain ⟨hwb, hwe, _⟩ := hw
        have each : ∀ i, i < len → ∃ avs cs', Typed P n e avs ∧ RepVals μ M0 W avs cs' ∧ (∀ c ∈ cs', one c = true) ∧ W.cells? 0 (a.add (i * P.cellsOf e)) (P.cellsOf e) = some cs' := by
          intro i hi
          have h1 := hel i hi
          rw [List.getElem?_eq_getElem (by omega)] at h1
          obtain ⟨cs', h2, h3⟩ := Option.bind_eq_some_iff.1 h1
          obtain ⟨avs, a1, a2, a3⟩ := trod_rep hT n e cs' _ he h3 (weightsAll_mem hwe _ (List.mem_map.2 ⟨_, List.getElem_mem _, rfl⟩))
          exact ⟨avs, cs', a1, a2, a3, h2⟩
        obtain ⟨V, hV⟩ := Go.Deep.choose_lt (α := List AV × List Value) (n := len) (p := fun i v => Typed P n e v.1 ∧ RepVals μ M0 W v.1 v.2 ∧ (∀ c ∈ v.2, one c = true) ∧ W.cells? 0 (a.add (i * P.cellsOf e)) (P.cellsOf e) = some v.2)
          (fun i hi => by obtain ⟨avs, cs', h1⟩ := each i hi; exact ⟨(avs, cs'), h1⟩)
        have hlb : len * P.bytesOf e ≤ reachBytes := Nat.le_trans (Nat.mul_le_mul_right _ (by omega)) hwb
        have hll : len ≤ len * P.bytesOf e := Nat.le_mul_of_pos_right _ hbe
        refine ⟨[.sl (P.cellsOf e) ((List.range len).map fun i => (V i).1) len], ?_, ?_, by simp [one]⟩
        · refine ⟨(List.range len).map fun i => (V i).1, by simp, by simpa using hlb, fun x hx => ?_⟩
          obtain ⟨i, hi, rfl⟩ := List.mem_map.1 hx
          exact (hV i (List.mem_range.1 hi)).1
        · simp only [RepVals]
          refine ⟨_, [], rfl, ?_, rfl⟩
          simp only [Rep]
          have hrl : ∀ i, i < len → (V i).1.length = P.cellsOf e := fun i hi => by
            obtain ⟨_, h2, _, h4⟩ := hV i hi
            rw [← h2.length]; exact (World.cells?_some h4).2.1
          refine ⟨some a, cap, rfl, by simp, by simpa using hl, by simp [lenMax]; unfold reachBytes at hlb; omega, ?_, ?_⟩
          · intro x hx
            obtain ⟨i, hi, rfl⟩ := List.mem_map.1 hx
            exact hrl i (List.mem_range.1 hi)
          · by_cases h0 : len = 0
            · left; simp [h0]
            · right
              obtain ⟨_, hlen0, hcell⟩ := World.cells?_some (hV 0 (by omega)).2.2.2
              have g0 := hcell 0 hce
              obtain ⟨c0, hc0⟩ : ∃ c, (V 0).2[0]? = some c := ⟨_, List.getElem?_eq_getElem (by omega)⟩
              rw [hc0] at g0
              have hspot : a.spot = none := by simpa [Addr.add] using World.cell?_spot g0
              obtain ⟨b, o, sp⟩ := a
              simp only at hspot
              subst hspot
              refine ⟨b, o, rfl, cell_lt (b := b) (o := o) (v := c0) (by simpa [Addr.add] using g0), fun h => h.elim, row_rep b _ _ o fun i x hx => ?_⟩
              have hi : i < len := by have := (List.getElem?_eq_some_iff.1 hx).1; simpa using this
              have hxe : x = (V i).1 := by
                rw [List.getElem?_map, List.getElem?_range hi] at hx; simpa using hx.symm
              subst hxe
              obtain ⟨_, h2, h3, h4⟩ := hV i hi
              obtain ⟨_, hl4, hc4⟩ := World.cells?_some h4
              refine cells_rep b _ _ _ h2 h3 fun j hj => ?_
              have := hc4 j (by omega)
              rw [add_plain, add_plain] at this
              simpa [Nat.add_assoc] using this
    · rename_i fs hu
      simp only [Bool.and_eq_true, beq_iff_eq, List.all_eq_true, List.contains_iff_mem] at hc
      obtain ⟨⟨hft, hsz⟩, hoff⟩ := hc
      obtain ⟨xs, n, hn, rfl, hl, hxl, hx⟩ := DataW.trod_struct hu h
      obtain rfl : n = fuel := by omega
      simp only [DataW.weights, hu] at hw
      have hfl : ∀ (j : Nat) (f : Field), fs.toList[j]? = some f → f.offset = ((fs.toList.take j).map fun f => P.cellsOf f.type).sum := fun j f hj => by
        have := hoff j (List.mem_range.2 (List.getElem?_eq_some_iff.1 hj).1)
        rw [hj] at this; simpa using this
      obtain ⟨avs, h1, h2, h3⟩ := fields_rep (enc := enc) (P := P) (W := W) (μ := μ) (fs := fs.toList) (n := n)
        (fun t cs x ⟨f, hf, e⟩ h k => by subst e; exact trod_rep hT n f.type cs x (hft f hf) h k) fs.toList [] cs xs rfl (by rw [hl, hsz]) (fun j f hj => by simpa using hfl j f hj)
        (fun j f hj => hx j f (by simpa using hj)) (by simpa using hxl) hw
      simp only [List.map_nil, List.sum_nil, List.drop_zero] at h2 h3
      exact ⟨avs, h1, h2, h3⟩
    · cases hc
end
end Go.Proofs.YtajbeippbabhhaaGreatDoor.Eng

namespace Go.Proofs.YtajbeippbabhhaaGreatDoor.Eng
open Go Go.WideShapes Go.ChangeShapes Go.RowKit Go.ChangeAt

/-! ## A law's row out of its contract -/
/-- An argument of this type. -/
def ArgT (P : Program) (t : TypeId) (a : AV) : Prop := ∃ fuel avs, Typed P fuel t avs ∧ a = mk (isAggB P t) avs
def ArgsT (P : Program) : List TypeId → List AV → Prop
  | [], avl => avl = []
  | t :: ts, avl => ∃ a r, avl = a :: r ∧ ArgT P t a ∧ ArgsT P ts r

section
variable {H : Type} {enc : TypeId × Value → H} {P : Program} {W : World} {μ : Mu}

theorem arg_rep {T : List TypeId} (hT : closedB P T = true) {t : TypeId} (ht : t ∈ T) {base : Nat} {v : Value} {d : DataW H} {ps : List MemPlace} (hv : Value.okWide P W .any base t v)
    (h : DataW.Trod enc P W 0 (fun _ => true) true t v d ps) (hw : (DataW.weights P t d).all (· ≤ reachBytes) = true) : ∃ a, ArgT P t a ∧ Rep μ M0 W a v := by
  obtain ⟨fuel, hf⟩ := h
  obtain ⟨avs, h1, h2, h3⟩ := trod_rep (μ := μ) hT fuel t _ _ ht hf hw
  refine ⟨mk (isAggB P t) avs, ⟨fuel, avs, h1, rfl⟩, ?_⟩
  have hc := (List.all_eq_true.1 hT) t ht
  have flat : ∀ x, v = x → (∀ cs, x ≠ .agg cs) → isAggB P t = false → Rep μ M0 W (mk (isAggB P t) avs) v := by
    rintro x rfl hx ha
    have hcs : v.cells = #[v] := by
      cases v <;> first | rfl | exact absurd rfl (hx _)
    rw [hcs] at h2
    rw [ha]
    match avs, h2 with
    | [a], h2 =>
      simp only [RepVals] at h2
      obtain ⟨x, _, e, h2, rfl⟩ := h2
      simp only [List.cons.injEq, and_true] at e
      subst e
      simpa [mk] using h2
    | [], h2 => simp only [RepVals] at h2; cases h2
    | _ :: _ :: _, h2 =>
      simp only [RepVals] at h2
      obtain ⟨_, _, e, _, _, _, rfl, _⟩ := h2
      cases e
  split at hc
  · rename_i hu
    obtain ⟨b, e⟩ := okWide_bool hu hv
    exact flat _ e (by intro cs h; cases h) (by simp [isAggB, hu])
  · rename_i k hu
    obtain ⟨b, e⟩ := okWide_int hu hv
    exact flat _ e (by intro cs h; cases h) (by simp [isAggB, hu])
  · rename_i hu
    obtain ⟨b, e⟩ := okWide_string hu hv
    exact flat _ e (by intro cs h; cases h) (by simp [isAggB, hu])
  · rename_i e hu
    obtain ⟨a, len, cap, e⟩ := okWide_slice hu hv
    exact flat _ e (by intro cs h; cases h) (by simp [isAggB, hu])
  · rename_i fs hu
    obtain ⟨cs, rfl, _⟩ := okWide_struct hu hv
    have ha : isAggB P t = true := by simp [isAggB, hu]
    rw [ha]
    simp only [mk, Rep, if_true]
    simp only [Value.cells] at h2 h3
    exact ⟨cs, rfl, h2, h3⟩
  · cases hc

theorem args_rep {T : List TypeId} (hT : closedB P T = true) {base : Nat} : ∀ (ts : List TypeId) (vs : List Value) (ds : List (DataW H)) (ps : List MemPlace), (∀ t ∈ ts, t ∈ T) →
    (∀ (j : Nat) t v, ts[j]? = some t → vs[j]? = some v → Value.okWide P W .any base t v) → DataW.TrodAll enc P W 0 (fun _ => true) true ts vs ds ps →
    (DataW.weightsEach P ts ds).all (· ≤ reachBytes) = true → ∃ avl, ArgsT P ts avl ∧ RepVals μ M0 W avl vs ∧ ds.length = ts.length
  | [], vs, ds, ps, _, _, h, _ => by
    obtain ⟨rfl, rfl, rfl⟩ := trodAll_nil h
    exact ⟨[], rfl, by simp only [RepVals], rfl⟩
  | t :: ts, vs, ds, ps, hin, hval, h, hw => by
    obtain ⟨v, vs', d, ds', p, q, rfl, rfl, rfl, h1, h2⟩ := trodAll_cons h
    simp only [DataW.weightsEach, List.all_append, Bool.and_eq_true] at hw
    obtain ⟨a, ha, hr⟩ := arg_rep (μ := μ) hT (hin t (by simp)) (hval 0 t v rfl rfl) h1 hw.1
    obtain ⟨avl, hs, hrs, hl⟩ := args_rep hT ts vs' ds' q (fun t ht => hin t (by simp [ht])) (fun j t v h k => hval (j + 1) t v (by simpa using h) (by simpa using k)) h2 hw.2
    exact ⟨a :: avl, ⟨a, avl, rfl, ha, hs⟩, by simp only [RepVals]; exact ⟨v, vs', rfl, hr, hrs⟩, by simp [hl]⟩

theorem below_trodAll (hl : laidOutB P = true) {W' : World} (hb : Below W.heap.size W W') : ∀ (ts : List TypeId) (vs : List Value) (ds : List (DataW H)) (ps : List MemPlace), (∀ t ∈ ts, P.readableRec t = true ∧ t < P.types.size) →
    DataW.TrodAll enc P W 0 (fun _ => true) true ts vs ds ps → DataW.TrodAll enc P W' 0 (fun b => decide (b < W.heap.size)) true ts vs ds ps
  | [], vs, ds, ps, _, h => by
    obtain ⟨rfl, rfl, rfl⟩ := trodAll_nil h
    exact trodAll_mk0
  | t :: ts, vs, ds, ps, hr, h => by
    obtain ⟨v, vs', d, ds', p, q, rfl, rfl, rfl, h1, h2⟩ := trodAll_cons h
    have lt : ∀ x ∈ p, x.block < W.heap.size := by obtain ⟨m, hm⟩ := h1; exact DataW.trod_lt m _ _ _ hm
    exact ⟨p, q, Below.trod hl (hr t (by simp)).1 (hr t (by simp)).2 h1 hb lt, below_trodAll hl hb ts vs' ds' q (fun t ht => hr t (by simp [ht])) h2, rfl⟩
end

def S0 : Store := ⟨fun _ => none, 0⟩
theorem mut0 (μ : Mu) : Mut μ S0 = M0 := by
  funext b; apply propext; constructor
  · rintro ⟨l, o, c, h, _⟩; cases h
  · exact fun h => h.elim
theorem repr0 (W : World) : Repr (fun _ => none) S0 W := ⟨fun l o e => by simp [S0] at e, fun l l' o o' c c' h => by simp [S0] at h, fun l c h => by simp at h⟩

theorem law_contract {C : Checked} {f : FuncId} {fn : Func} {s : ChangeSpec} {ts : List TypeId} {tb : TypeId} {T : List TypeId}
    (hts : fn.params.toList = ts) (hr : fn.resultTypes = #[tb]) (hb : C.prog.underlying tb = some .bool)
    (hvars : s.vars = []) (hspec : ∀ (H : Type) (ds : List (DataW H)), ds.length = ts.length → s.fn H ds = { results := [.lit (.bool true)], args := ds })
    (hT : closedB C.prog T = true) (hin : ∀ t ∈ ts, t ∈ T) (hl : laidOutB C.prog = true) (hread : ∀ t ∈ ts, C.prog.readableRec t = true ∧ t < C.prog.types.size)
    {H : Type} {enc : TypeId × Value → H} (W : World) (base : Nat) (args : Array Value) (ds gs : List (DataW H)) (before : List MemPlace)
    (contract : ∀ avl, ArgsT C.prog ts avl → Pure C.prog f avl (.bool true))
    (hval : ∀ (j : Nat) t v, fn.params[j]? = some t → args[j]? = some v → Value.okWide C.prog W .any base t v)
    (hW : DataW.Whole enc C.prog fn.params.toList s.vars false W args.toList ds gs before)
    (hsz : (DataW.weightsEach C.prog (fn.params.toList ++ s.plain.varTypes C.prog) (ds ++ gs)).all (· ≤ reachBytes) = true) :
    Calls C.prog f args W fun e W' => ∃ v, e = .returned v ∧ s.post enc C.prog fn false true false false W args v W' := by
  have hW' := hW
  obtain ⟨p, q, hA, hV, rfl, hfz, hnd⟩ := hW
  rw [hts] at hA hsz
  rw [hvars] at hV
  obtain ⟨rfl, rfl⟩ := trodVars_none hV
  have hvt : s.plain.varTypes C.prog = [] := by simp [ChangeSpec.plain, DataSpec.varTypes, hvars]
  rw [hvt, List.append_nil, List.append_nil] at hsz
  obtain ⟨avl, h1, h2, h3⟩ := args_rep (μ := fun _ => none) (base := base) hT ts args.toList ds p hin (fun j t v a b => hval j t v (by rw [← hts] at a; simpa using a) (by simpa using b)) hA hsz
  have hc := contract avl h1 S0 (fun _ => none) W args.toList (repr0 W) (by rw [mut0]; exact h2)
  rw [show args.toList.toArray = args by simp] at hc
  refine hc.mono fun e W' ⟨μ', S', r, ⟨hr1, hr2⟩, hR, hK, hE⟩ => ?_
  subst hr1
  have he : e = .returned (.bool true) := by
    cases e with
    | returned v => simp only [RepEnd, Rep] at hE; rw [hE]
    | _ => exact hE.elim
  subst he
  have bel : Below W.heap.size W W' := ⟨hK.os, hK.tape, hK.output, hK.size, fun k hk => hK.heap k hk (by rw [mut0]; exact fun h => h.elim)⟩
  have hsp := hspec H ds (by simpa using h3)
  refine ⟨_, rfl, ds, [], p ++ [], [], p, [], hW', ?_, ?_, ?_, bel.frame _, fun h => by cases h⟩
  · rw [List.append_nil, hsp, hr]
    exact trodAll_mk1 (shut_bool hb _)
  · rw [List.append_nil, hsp, hts]
    exact below_trodAll hl bel ts _ _ _ hread hA
  · rw [List.append_nil, hsp, hvars]
    rfl

theorem lifted {C : Checked} {os : Os} (own : ownKnob C.prog.godebug = none) (started : os.Started) {f : FuncId} {fn : Func} {s : ChangeSpec} {ts : List TypeId} {tb : TypeId} {T : List TypeId}
    (noInit : C.prog.inits.idxOf? f = none) (hf : C.prog.funcs[f]? = some fn) (hts : fn.params.toList = ts) (hr : fn.resultTypes = #[tb]) (hb : C.prog.underlying tb = some .bool)
    (hvars : s.vars = []) (hspec : ∀ (H : Type) (ds : List (DataW H)), ds.length = ts.length → s.fn H ds = { results := [.lit (.bool true)], args := ds })
    (hT : closedB C.prog T = true) (hin : ∀ t ∈ ts, t ∈ T) (hl : laidOutB C.prog = true) (hread : ∀ t ∈ ts, C.prog.readableRec t = true ∧ t < C.prog.types.size)
    {H : Type} {enc : TypeId × Value → H}
    (witness : ∃ (w : World) (tape : Tape) (i : Input), w.os = os ∧ (w.forCall tape i).Shaped C.prog ∧ i.vars = [] ∧ Input.okWide C.prog (w.forCall tape i) .any w.heap.size f i ∧
      s.pre6 enc C.prog fn [] false (w.forCall tape i).memory i.args ∧ Assume.holds {} C.prog (lone (Frame.enter C.prog f i.args .normal) [] (w.forCall tape i)))
    (contract : ∀ avl, ArgsT C.prog ts avl → Pure C.prog f avl (.bool true)) :
    ReturnsInHanded {} C os f .any (s.pre6 enc C.prog fn [] false) (s.post enc C.prog fn false true false false) := by
  refine returnsInHanded_of_change_sized (C := C) own started noInit hf witness ?_
  intro W base args ds gs before hval hW _ hsz _
  exact law_contract hts hr hb hvars hspec hT hin hl hread W base args ds gs before contract hval hW hsz

/-- The second form. -/
theorem liftedU {C : Checked} {os : Os} (own : ownKnob C.prog.godebug = none) (started : os.Started) {f : FuncId} {fn : Func} {s : ChangeSpec} {ts : List TypeId} {tb : TypeId} {T : List TypeId} {k : (H : Type) → List (DataW H) → Bool}
    (noInit : C.prog.inits.idxOf? f = none) (hf : C.prog.funcs[f]? = some fn) (hts : fn.params.toList = ts) (hr : fn.resultTypes = #[tb]) (hb : C.prog.underlying tb = some .bool)
    (hvars : s.vars = []) (hspec : ∀ (H : Type) (ds : List (DataW H)), ds.length = ts.length → s.fn H ds = { results := [.lit (.bool true)], args := ds })
    (hT : closedB C.prog T = true) (hin : ∀ t ∈ ts, t ∈ T) (hl : laidOutB C.prog = true) (hread : ∀ t ∈ ts, C.prog.readableRec t = true ∧ t < C.prog.types.size)
    {H : Type} {enc : TypeId × Value → H} {F : Stop.Interp}
    (witness : ∃ (w : World) (tape : Tape) (i : Input), w.os = os ∧ (w.forCall tape i).Shaped C.prog ∧ i.vars = [] ∧ Input.okWide C.prog (w.forCall tape i) .any w.heap.size f i ∧
      ({ OpenSpec.ofChange s with cond := some k } : OpenSpec).pre6 enc C.prog fn [] false (w.forCall tape i).memory i.args ∧ Assume.holds {} C.prog (lone (Frame.enter C.prog f i.args .normal) [] (w.forCall tape i)))
    (contract : ∀ avl, ArgsT C.prog ts avl → Pure C.prog f avl (.bool true)) :
    ReturnsInHanded {} C os f .any (({ OpenSpec.ofChange s with cond := some k } : OpenSpec).pre6 enc C.prog fn [] false) ((({ OpenSpec.ofChange s with cond := some k } : OpenSpec).at F).post enc C.prog fn false true false false) := by
  refine returnsInHanded_of_cond_sized (C := C) (s := { OpenSpec.ofChange s with cond := some k }) (k := k) rfl own started noInit hf witness ?_
  intro W base args ds gs before hval hW _ _ hsz _
  exact law_contract (s := s) hts hr hb hvars hspec hT hin hl hread W base args ds gs before contract hval hW hsz
end Go.Proofs.YtajbeippbabhhaaGreatDoor.Eng

namespace Go.Proofs.YtajbeippbabhhaaGreatDoor.Eng
open Go Go.WideShapes Go.ChangeShapes Go.RowKit

/-- A row that lists variables: the contract needs none of them. -/
theorem liftedRow {C : Checked} {os : Os} (own : ownKnob C.prog.godebug = none) (started : os.Started) {f : FuncId} {fn : Func} {s : ChangeSpec} {ts : List TypeId} {tb : TypeId} {T : List TypeId} {k : Option ((H : Type) → List (DataW H) → Bool)} {laid : List (String × DataW Unit)}
    (noInit : C.prog.inits.idxOf? f = none) (hf : C.prog.funcs[f]? = some fn) (hts : fn.params.toList = ts) (hr : fn.resultTypes = #[tb]) (hb : C.prog.underlying tb = some .bool)
    (hvars : s.vars = []) (hspec : ∀ (H : Type) (ds : List (DataW H)), ds.length = ts.length → s.fn H ds = { results := [.lit (.bool true)], args := ds })
    (hT : closedB C.prog T = true) (hin : ∀ t ∈ ts, t ∈ T) (hl : laidOutB C.prog = true) (hread : ∀ t ∈ ts, C.prog.readableRec t = true ∧ t < C.prog.types.size)
    {H : Type} {enc : TypeId × Value → H} {F : Stop.Interp}
    (witness : ∃ (w : World) (tape : Tape) (i : Input), w.os = os ∧ (w.forCall tape i).Shaped C.prog ∧ i.vars = [] ∧ Input.okWide C.prog (w.forCall tape i) .any w.heap.size f i ∧
      ({ OpenSpec.ofChange s with cond := k } : OpenSpec).preRow enc C.prog fn [] false laid (w.forCall tape i).memory i.args ∧ Assume.holds {} C.prog (lone (Frame.enter C.prog f i.args .normal) [] (w.forCall tape i)))
    (contract : ∀ avl, ArgsT C.prog ts avl → Pure C.prog f avl (.bool true)) :
    ReturnsInHanded {} C os f .any (({ OpenSpec.ofChange s with cond := k } : OpenSpec).preRow enc C.prog fn [] false laid) ((({ OpenSpec.ofChange s with cond := k } : OpenSpec).at F).post enc C.prog fn false true false false) := by
  refine returnsInHanded_of_row (C := C) (s := { OpenSpec.ofChange s with cond := k }) own started noInit hf witness ?_
  intro W base args ds gs before hval hW _ _ hsz _ _ _
  exact law_contract (s := s) hts hr hb hvars hspec hT hin hl hread W base args ds gs before contract hval hW hsz
end Go.Proofs.YtajbeippbabhhaaGreatDoor.Eng
