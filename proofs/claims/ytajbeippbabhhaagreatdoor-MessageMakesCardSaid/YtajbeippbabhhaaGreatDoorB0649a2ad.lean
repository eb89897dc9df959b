import Derived.Calls
import Derived.Orders
import Derived.Defers
import Derived.Recover
import Derived.Below
import Derived.Tactics
import Derived.Laws.Cells
import Derived.Laws.Entries
import Derived.Laws.Strings
import Derived.Laws.Append
import Derived.Laws.AppendOwn
import Derived.Laws.MakeOwn
import Derived.Laws.BytesArg
import Derived.Laws.IdiomStrings
import Derived.Deep.AppendSrc
import Derived.Deep.Upon
import Derived.Lib.Builder
import Derived.Lib.UnsafeStr
import Derived.LaidEql
import Derived.KernelRfl
import Derived.Laws.StructEq
import Derived.ChangeKeysEq
set_option linter.unusedVariables false
set_option linter.unusedSimpArgs false
namespace Go.Proofs.YtajbeippbabhhaaGreatDoor.Eng
open Go

/-! ## Abstract values -/

inductive AV where
  | int (k : IntKind) (n : Int)
  | bool (b : Bool)
  | str (l : List UInt8)
  | lit (v : Value)
  | ptr (l off : Nat)
  | rptr (l i r : Nat)
  | rop (cs : List AV) (r : Nat)
  | sl (s : Nat) (es : List (List AV)) (n : Nat)
  | own (l off len : Nat)
  | mp (l : Nat)
  | fn (f : Fn) (cap : List AV)
  | ifc (t : TypeId) (v : AV)
  | agg (cs : List AV)
  | tup (vs : List AV)
  | und
  | junk
  deriving Inhabited

/-- Where a name lies: its block, the cells of one element, how many elements fit. -/
structure Loc where
  block : Nat
  size : Nat
  cap : Nat

abbrev Mu := Nat → Option Loc

def strV (l : List UInt8) : Value := .string ⟨l.toArray⟩

def one : Value → Bool
  | .agg _ | .tuple _ => false
  | _ => true

def lenMax : Nat := 281474976710656
def strMax : Nat := 9223372036854775807

mutual
def Rep (μ : Mu) (M : Nat → Prop) (w : World) : AV → Value → Prop
  | .int k n, v => v = .int k n
  | .bool b, v => v = .bool b
  | .str l, v => v = strV l ∧ l.length ≤ strMax
  | .lit u, v => v = u ∧ one u = true
  | .ptr l off, v => ∃ c, μ l = some c ∧ v = .pointer (some ⟨c.block, off, none⟩)
  | .rptr l i r, v => ∃ c, μ l = some c ∧ v = .pointer (some ⟨c.block, i * c.size + r, none⟩)
  | .rop cs r, v => ∃ b o, b < w.heap.size ∧ ¬ M b ∧ v = .pointer (some ⟨b, o + r, none⟩) ∧ RepCells μ M w cs b o
  | .sl s es n, v => ∃ A c, v = .slice A n c ∧ n ≤ es.length ∧ es.length ≤ c ∧ es.length ≤ lenMax ∧ (∀ cs ∈ es, cs.length = s) ∧
      (es = [] ∨ ∃ b o, A = some ⟨b, o, none⟩ ∧ b < w.heap.size ∧ ¬ M b ∧ RepRow μ M w s es b o)
  | .own l off len, v => ∃ c A, μ l = some c ∧ off + len ≤ c.cap ∧ c.cap ≤ 2 * lenMax * lenMax ∧ v = .slice A len (c.cap - off) ∧ (off < c.cap → A = some ⟨c.block, off * c.size, none⟩)
  | .mp l, v => ∃ c, μ l = some c ∧ v = .map (some c.block)
  | .fn f cap, v => ∃ vs, v = .func f #[] vs ∧ RepVals μ M w cap vs.toList
  | .ifc t x, v => ∃ u, v = .iface t u ∧ Rep μ M w x u
  | .agg cs, v => ∃ vs, v = .agg vs ∧ RepVals μ M w cs vs.toList ∧ ∀ x ∈ vs.toList, one x = true
  | .tup xs, v => ∃ vs, v = .tuple vs ∧ RepVals μ M w xs vs.toList
  | .und, v => v = undef
  | .junk, _ => True
def RepVals (μ : Mu) (M : Nat → Prop) (w : World) : List AV → List Value → Prop
  | [], vs => vs = []
  | c :: cs, vs => ∃ v vs', vs = v :: vs' ∧ Rep μ M w c v ∧ RepVals μ M w cs vs'
def RepCells (μ : Mu) (M : Nat → Prop) (w : World) : List AV → Nat → Nat → Prop
  | [], _, _ => True
  | c :: cs, b, o => (∃ v, w.cell? ⟨b, o, none⟩ = some v ∧ one v = true ∧ Rep μ M w c v) ∧ RepCells μ M w cs b (o + 1)
def RepRow (μ : Mu) (M : Nat → Prop) (w : World) (s : Nat) : List (List AV) → Nat → Nat → Prop
  | [], _, _ => True
  | cs :: es, b, o => RepCells μ M w cs b o ∧ RepRow μ M w s es b (o + s)
end

/-! ## What stays -/

/-- `w'` holds all that `w` held outside `M`, and the names keep their places. -/
structure Keeps (μ : Mu) (M : Nat → Prop) (w : World) (μ' : Mu) (M' : Nat → Prop) (w' : World) : Prop where
  mu : ∀ l c, μ l = some c → μ' l = some c
  keepM : ∀ b, b < w.heap.size → M' b → M b
  size : w.heap.size ≤ w'.heap.size
  heap : ∀ b, b < w.heap.size → ¬ M b → w'.heap[b]? = w.heap[b]?
  os : w'.os = w.os
  tape : w'.tape = w.tape
  output : w'.output = w.output

theorem Keeps.refl (μ : Mu) (M : Nat → Prop) (w : World) : Keeps μ M w μ M w := ⟨fun _ _ h => h, fun _ _ h => h, Nat.le_refl _, fun _ _ _ => rfl, rfl, rfl, rfl⟩
theorem Keeps.trans {μ M w μ1 M1 w1 μ2 M2 w2} (h : Keeps μ M w μ1 M1 w1) (k : Keeps μ1 M1 w1 μ2 M2 w2) : Keeps μ M w μ2 M2 w2 :=
  ⟨fun l c e => k.mu l c (h.mu l c e), fun b hb m => h.keepM b hb (k.keepM b (Nat.lt_of_lt_of_le hb h.size) m), Nat.le_trans h.size k.size,
   fun b hb hm => (k.heap b (Nat.lt_of_lt_of_le hb h.size) (fun m1 => hm (h.keepM b hb m1))).trans (h.heap b hb hm), k.os.trans h.os, k.tape.trans h.tape, k.output.trans h.output⟩

theorem cell_lt {w : World} {b o : Nat} {v : Value} (h : w.cell? ⟨b, o, none⟩ = some v) : b < w.heap.size := by
  unfold World.cell? at h
  rcases Nat.lt_or_ge b w.heap.size with h' | h'
  · exact h'
  · simp [Array.getElem?_eq_none h'] at h

theorem Keeps.cell {μ M w μ' M' w'} (k : Keeps μ M w μ' M' w') {b o : Nat} {v : Value} (hm : ¬ M b) (h : w.cell? ⟨b, o, none⟩ = some v) : w'.cell? ⟨b, o, none⟩ = some v := by
  have hb := cell_lt h
  have := k.heap b hb hm
  unfold World.cell? at *
  rw [this]; exact h

mutual
theorem Rep.keep {μ M w μ' M' w'} (k : Keeps μ M w μ' M' w') : ∀ (x : AV) (v : Value), Rep μ M w x v → Rep μ' M' w' x v
  | .int _ _, v, h => by simpa only [Rep] using h
  | .bool _, v, h => by simpa only [Rep] using h
  | .str _, v, h => by simpa only [Rep] using h
  | .lit _, v, h => by simpa only [Rep] using h
  | .und, v, h => by simpa only [Rep] using h
  | .ptr l off, v, h => by
    simp only [Rep] at h ⊢
    obtain ⟨c, h1, h2⟩ := h
    exact ⟨c, k.mu _ _ h1, h2⟩
  | .rptr l i r, v, h => by
    simp only [Rep] at h ⊢
    obtain ⟨c, h1, h2⟩ := h
    exact ⟨c, k.mu _ _ h1, h2⟩
  | .rop cs r, v, h => by
    simp only [Rep] at h ⊢
    obtain ⟨b, o, hb, hm, hv, hc⟩ := h
    exact ⟨b, o, Nat.lt_of_lt_of_le hb k.size, fun m => hm (k.keepM b hb m), hv, RepCells.keep k cs b o hm hc⟩
  | .sl s es n, v, h => by
    simp only [Rep] at h ⊢
    obtain ⟨A, c, hv, h0, h1, h2, h3, h4⟩ := h
    refine ⟨A, c, hv, h0, h1, h2, h3, ?_⟩
    rcases h4 with h4 | ⟨b, o, hA, hb, hm, hr⟩
    · exact .inl h4
    · exact .inr ⟨b, o, hA, Nat.lt_of_lt_of_le hb k.size, fun m => hm (k.keepM b hb m), RepRow.keep k s es b o hm hr⟩
  | .own l off len, v, h => by
    simp only [Rep] at h ⊢
    obtain ⟨c, A, h1, h2⟩ := h
    exact ⟨c, A, k.mu _ _ h1, h2⟩
  | .mp l, v, h => by
    simp only [Rep] at h ⊢
    obtain ⟨c, h1, h2⟩ := h
    exact ⟨c, k.mu _ _ h1, h2⟩
  | .fn f cap, v, h => by
    simp only [Rep] at h ⊢
    obtain ⟨vs, h1, h2⟩ := h
    exact ⟨vs, h1, RepVals.keep k cap vs.toList h2⟩
  | .ifc t x, v, h => by
    simp only [Rep] at h ⊢
    obtain ⟨u, h1, h2⟩ := h
    exact ⟨u, h1, Rep.keep k x u h2⟩
  | .agg cs, v, h => by
    simp only [Rep] at h ⊢
    obtain ⟨vs, h1, h2, h3⟩ := h
    exact ⟨vs, h1, RepVals.keep k cs vs.toList h2, h3⟩
  | .tup cs, v, h => by
    simp only [Rep] at h ⊢
    obtain ⟨vs, h1, h2⟩ := h
    exact ⟨vs, h1, RepVals.keep k cs vs.toList h2⟩
  | .junk, v, h => by simp only [Rep]
theorem RepVals.keep {μ M w μ' M' w'} (k : Keeps μ M w μ' M' w') : ∀ (cs : List AV) (vs : List Value), RepVals μ M w cs vs → RepVals μ' M' w' cs vs
  | [], vs, h => by simpa only [RepVals] using h
  | c :: cs, vs, h => by
    simp only [RepVals] at h ⊢
    obtain ⟨v, vs', h1, h2, h3⟩ := h
    exact ⟨v, vs', h1, Rep.keep k c v h2, RepVals.keep k cs vs' h3⟩
theorem RepCells.keep {μ M w μ' M' w'} (k : Keeps μ M w μ' M' w') : ∀ (cs : List AV) (b o : Nat), ¬ M b → RepCells μ M w cs b o → RepCells μ' M' w' cs b o
  | [], b, o, _, h => by simp only [RepCells]
  | c :: cs, b, o, hm, h => by
    simp only [RepCells] at h ⊢
    obtain ⟨⟨v, h1, h2, h3⟩, h4⟩ := h
    exact ⟨⟨v, k.cell hm h1, h2, Rep.keep k c v h3⟩, RepCells.keep k cs b (o + 1) hm h4⟩
theorem RepRow.keep {μ M w μ' M' w'} (k : Keeps μ M w μ' M' w') (s : Nat) : ∀ (es : List (List AV)) (b o : Nat), ¬ M b → RepRow μ M w s es b o → RepRow μ' M' w' s es b o
  | [], b, o, _, h => by simp only [RepRow]
  | cs :: es, b, o, hm, h => by
    simp only [RepRow] at h ⊢
    exact ⟨RepCells.keep k cs b o hm h.1, RepRow.keep k s es b (o + s) hm h.2⟩
end

/-! ## The store -/

inductive AObj where
  | box (t : TypeId) (cs : List AV)
  | row (t : TypeId) (s frz : Nat) (es : List (List AV))
  | mpo (f : Int → Option AV)

/-- What a map's entries hold at a whole number. -/
def findE : List MapEntry → Int → Option Value
  | [], _ => none
  | e :: es, k => match e.key with
    | .int .i64 n => if k = n then some e.val else findE es k
    | _ => none

def upd {α : Type} (f : Nat → α) (i : Nat) (v : α) : Nat → α := fun j => if j = i then v else f j
theorem upd_apply {α : Type} (f : Nat → α) (i : Nat) (v : α) (j : Nat) : upd f i v j = if j = i then v else f j := rfl
theorem upd_same {α : Type} (f : Nat → α) (i : Nat) (v : α) : upd f i v i = v := by simp [upd]
theorem upd_ne {α : Type} (f : Nat → α) {i j : Nat} (v : α) (h : j ≠ i) : upd f i v j = f j := by simp [upd, h]
theorem upd_upd {α : Type} (f : Nat → α) (i : Nat) (v u : α) : upd (upd f i v) i u = upd f i u := by funext j; simp only [upd]; split <;> rfl
theorem upd_self {α : Type} (f : Nat → α) (i : Nat) : upd f i (f i) = f := by funext j; simp only [upd]; split <;> simp_all

/-- Named variables and rows; `n`: the next name. -/
structure Store where
  get : Nat → Option AObj
  n : Nat
def Store.push (S : Store) (o : AObj) : Store := ⟨upd S.get S.n (some o), S.n + 1⟩
def Store.set (S : Store) (l : Nat) (o : Option AObj) : Store := ⟨upd S.get l o, S.n⟩
theorem Store.get_push (S : Store) (o : AObj) (l : Nat) : (S.push o).get l = if l = S.n then some o else S.get l := rfl
theorem Store.get_push_same (S : Store) (o : AObj) : (S.push o).get S.n = some o := by simp [Store.get_push]
theorem Store.get_push_ne (S : Store) (o : AObj) {l : Nat} (h : l ≠ S.n) : (S.push o).get l = S.get l := by simp [Store.get_push, h]
theorem Store.get_set (S : Store) (l j : Nat) (o : Option AObj) : (S.set l o).get j = if j = l then o else S.get j := rfl
theorem Store.get_set_same (S : Store) (l : Nat) (o : Option AObj) : (S.set l o).get l = o := by simp [Store.get_set]
theorem Store.get_set_ne (S : Store) {l j : Nat} (o : Option AObj) (h : j ≠ l) : (S.set l o).get j = S.get j := by simp [Store.get_set, h]
theorem Store.n_push (S : Store) (o : AObj) : (S.push o).n = S.n + 1 := rfl
theorem Store.n_set (S : Store) (l : Nat) (o : Option AObj) : (S.set l o).n = S.n := rfl
theorem Store.set_set (S : Store) (l : Nat) (o o' : Option AObj) : (S.set l o).set l o' = S.set l o' := by simp [Store.set, upd_upd]
theorem Store.set_self (S : Store) (l : Nat) (o : Option AObj) (h : S.get l = o) : S.set l o = S := by
  obtain ⟨g, n⟩ := S; subst h; simp [Store.set, upd_self]

def ObjRep (μ : Mu) (M : Nat → Prop) (w : World) (c : Loc) : AObj → Prop
  | .box t cs => ∃ arr, w.heap[c.block]? = some (.cells arr t (0, 0)) ∧ RepVals μ M w cs arr.toList ∧ (∀ x ∈ arr.toList, one x = true)
  | .row t s frz es => c.size = s ∧ ∃ arr fr, w.heap[c.block]? = some (.cells arr t fr) ∧ arr.size = c.cap * c.size ∧ es.length ≤ c.cap ∧ es.length ≤ lenMax ∧ (∀ cs ∈ es, cs.length = c.size) ∧
      RepVals μ M w es.flatten (arr.toList.take (es.length * c.size)) ∧ (∀ x ∈ arr.toList, one x = true) ∧ (∀ i, frz * c.size ≤ i → i < arr.size → ¬ (fr.1 ≤ i ∧ i < fr.2)) ∧ c.cap ≤ 2 * lenMax * lenMax ∧ frz ≤ es.length

  | .mpo f => ∃ es clock, w.heap[c.block]? = some (.map es clock) ∧ (∀ e ∈ es.toList, ∃ n, e.key = .int .i64 n) ∧ (∀ k v, f k = some v → ∃ x, findE es.toList k = some x ∧ Rep μ M w v x) ∧ ∀ k, f k = none → findE es.toList k = none

def Mut (μ : Mu) (S : Store) (b : Nat) : Prop := ∃ l o c, S.get l = some o ∧ μ l = some c ∧ c.block = b

structure Repr (μ : Mu) (S : Store) (w : World) : Prop where
  objs : ∀ l o, S.get l = some o → ∃ c, μ l = some c ∧ ObjRep μ (Mut μ S) w c o
  inj : ∀ l l' o o' c c', S.get l = some o → S.get l' = some o' → μ l = some c → μ l' = some c' → c.block = c'.block → l = l'
  fin : ∀ l c, μ l = some c → l < S.n

theorem heap_lt {w : World} {b : Nat} {o : Obj} (h : w.heap[b]? = some o) : b < w.heap.size := by
  rcases Nat.lt_or_ge b w.heap.size with h' | h'
  · exact h'
  · simp [Array.getElem?_eq_none h'] at h

theorem ObjRep.block_lt {μ M w c o} (h : ObjRep μ M w c o) : c.block < w.heap.size := by
  cases o with
  | box t cs => obtain ⟨arr, h, _⟩ := h; exact heap_lt h
  | row t s frz es => obtain ⟨_, arr, fr, h, _⟩ := h; exact heap_lt h
  | mpo f => obtain ⟨es, clock, h, _⟩ := h; exact heap_lt h

theorem ObjRep.keep {μ M w μ' M' w'} (k : Keeps μ M w μ' M' w') {c : Loc} (hb : w'.heap[c.block]? = w.heap[c.block]?) {o : AObj} (h : ObjRep μ M w c o) : ObjRep μ' M' w' c o := by
  cases o with
  | box t cs =>
    obtain ⟨arr, h1, h2, h3⟩ := h
    exact ⟨arr, hb.trans h1, RepVals.keep k _ _ h2, h3⟩
  | row t s frz es =>
    obtain ⟨h0, arr, fr, h1, h2, h3, h4, h5, h6, h7, h8, h9⟩ := h
    exact ⟨h0, arr, fr, hb.trans h1, h2, h3, h4, h5, RepVals.keep k _ _ h6, h7, h8, h9⟩
  | mpo f =>
    obtain ⟨es, clock, h1, h2, h3, h4⟩ := h
    exact ⟨es, clock, hb.trans h1, h2, fun x v hv => by
      obtain ⟨y, g1, g2⟩ := h3 x v hv
      exact ⟨y, g1, g2.keep k⟩, h4⟩

theorem Repr.mut_lt {μ S w} (h : Repr μ S w) {b : Nat} (hm : Mut μ S b) : b < w.heap.size := by
  obtain ⟨l, o, c, h1, h2, rfl⟩ := hm
  obtain ⟨c', h3, h4⟩ := h.objs l o h1
  rw [h2] at h3; cases h3
  exact h4.block_lt

theorem Repr.get_lt {μ S w} (h : Repr μ S w) {l : Nat} {o : AObj} (e : S.get l = some o) : l < S.n := by
  obtain ⟨c, hc, _⟩ := h.objs l o e
  exact h.fin l c hc
theorem Repr.next {μ S w} (h : Repr μ S w) : μ S.n = none ∧ S.get S.n = none := by
  constructor
  · cases hm : μ S.n with
    | none => rfl
    | some c => have := h.fin _ _ hm; omega
  · cases hS : S.get S.n with
    | none => rfl
    | some o => have := h.get_lt hS; omega

/-- Only blocks that are not in the store turn, or nothing: the store is as it was. -/
theorem Repr.world {μ S w w'} (h : Repr μ S w) (hs : w.heap.size ≤ w'.heap.size) (hh : ∀ b, b < w.heap.size → w'.heap[b]? = w.heap[b]?) (ho : w'.os = w.os) (ht : w'.tape = w.tape) (hp : w'.output = w.output) :
    Repr μ S w' ∧ Keeps μ (Mut μ S) w μ (Mut μ S) w' := by
  have k : Keeps μ (Mut μ S) w μ (Mut μ S) w' := ⟨fun _ _ h => h, fun _ _ h => h, hs, fun b hb _ => hh b hb, ho, ht, hp⟩
  exact ⟨⟨fun l o e => by
    obtain ⟨c, h1, h2⟩ := h.objs l o e
    exact ⟨c, h1, h2.keep k (hh _ h2.block_lt)⟩, h.inj, h.fin⟩, k⟩

/-- Names are forgotten. -/
theorem Repr.drop {μ S T w} (h : Repr μ S w) (hT : ∀ l o, T.get l = some o → S.get l = some o) (hn : S.n ≤ T.n) : Repr μ T w ∧ Keeps μ (Mut μ S) w μ (Mut μ T) w := by
  have k : Keeps μ (Mut μ S) w μ (Mut μ T) w := ⟨fun _ _ h => h, fun b _ ⟨l, o, c, h1, h2⟩ => ⟨l, o, c, hT _ _ h1, h2⟩, Nat.le_refl _, fun _ _ _ => rfl, rfl, rfl, rfl⟩
  exact ⟨⟨fun l o e => by
    obtain ⟨c, h1, h2⟩ := h.objs l o (hT _ _ e)
    exact ⟨c, h1, h2.keep k rfl⟩, fun l l' o o' c c' h1 h2 => h.inj l l' o o' c c' (hT _ _ h1) (hT _ _ h2), fun l c hc => Nat.lt_of_lt_of_le (h.fin l c hc) hn⟩, k⟩

/-- One object of the store turns, in its block. -/
theorem Repr.set {μ S w} (h : Repr μ S w) {l : Nat} {o o' : AObj} {c : Loc} (hl : S.get l = some o) (hc : μ l = some c) (ob : Obj) (hb : c.block < w.heap.size)
    (ho : ∀ w', w' = { w with heap := w.heap.setIfInBounds c.block ob } → (∀ (x : AV) v, Rep μ (Mut μ S) w x v → Rep μ (Mut μ S) w' x v) → (∀ (x : List AV) v, RepVals μ (Mut μ S) w x v → RepVals μ (Mut μ S) w' x v) → ObjRep μ (Mut μ S) w' c o') :
    Repr μ (S.set l (some o')) { w with heap := w.heap.setIfInBounds c.block ob } ∧ Keeps μ (Mut μ S) w μ (Mut μ (S.set l (some o'))) { w with heap := w.heap.setIfInBounds c.block ob } := by
  have hM : Mut μ (S.set l (some o')) = Mut μ S := by
    funext b; apply propext; constructor
    · rintro ⟨j, x, d, h1, h2, h3⟩
      by_cases e : j = l
      · subst e; exact ⟨j, o, d, hl, h2, h3⟩
      · rw [Store.get_set_ne _ _ e] at h1; exact ⟨j, x, d, h1, h2, h3⟩
    · rintro ⟨j, x, d, h1, h2, h3⟩
      by_cases e : j = l
      · subst e; exact ⟨j, o', d, Store.get_set_same _ _ _, h2, h3⟩
      · exact ⟨j, x, d, by rw [Store.get_set_ne _ _ e]; exact h1, h2, h3⟩
  have k : Keeps μ (Mut μ S) w μ (Mut μ S) { w with heap := w.heap.setIfInBounds c.block ob } :=
    ⟨fun _ _ h => h, fun _ _ h => h, by simp, fun b _ hm => by
      have : c.block ≠ b := fun e => hm ⟨l, o, c, hl, hc, e⟩
      simp [this], rfl, rfl, rfl⟩
  rw [hM]
  refine ⟨⟨fun j x hj => ?_, fun j j' x x' d d' h1 h2 h3 h4 h5 => ?_, h.fin⟩, k⟩
  · rw [hM]
    by_cases e : j = l
    · subst e
      rw [Store.get_set_same] at hj; cases hj
      exact ⟨c, hc, ho _ rfl (fun x v => Rep.keep k x v) (fun x v => RepVals.keep k x v)⟩
    · rw [Store.get_set_ne _ _ e] at hj
      obtain ⟨d, h1, h2⟩ := h.objs j x hj
      refine ⟨d, h1, h2.keep k ?_⟩
      have : c.block ≠ d.block := fun e' => e (h.inj j l x o d c hj hl h1 hc e'.symm)
      simp [this]
  · have old : ∀ j x, (S.set l (some o')).get j = some x → ∃ y, S.get j = some y := fun j x hj => by
      by_cases e : j = l
      · subst e; exact ⟨o, hl⟩
      · rw [Store.get_set_ne _ _ e] at hj; exact ⟨x, hj⟩
    obtain ⟨y, hy⟩ := old j x h1
    obtain ⟨y', hy'⟩ := old j' x' h2
    exact h.inj j j' y y' d d' hy hy' h3 h4 h5

/-- A new object, in a new block. -/
theorem Repr.new {μ S w} (h : Repr μ S w) (o : AObj) (size cap : Nat) (ob : Obj)
    (ho : ∀ μ' M' w', w' = { w with heap := w.heap.push ob } → (∀ (x : AV) v, Rep μ (Mut μ S) w x v → Rep μ' M' w' x v) → (∀ (x : List AV) v, RepVals μ (Mut μ S) w x v → RepVals μ' M' w' x v) → ObjRep μ' M' w' ⟨w.heap.size, size, cap⟩ o) :
    ∃ μ', μ' S.n = some ⟨w.heap.size, size, cap⟩ ∧ Repr μ' (S.push o) { w with heap := w.heap.push ob } ∧ Keeps μ (Mut μ S) w μ' (Mut μ' (S.push o)) { w with heap := w.heap.push ob } := by
  obtain ⟨hl, hS⟩ := h.next
  refine ⟨upd μ S.n (some ⟨w.heap.size, size, cap⟩), upd_same _ _ _, ?_⟩
  have k : Keeps μ (Mut μ S) w (upd μ S.n (some ⟨w.heap.size, size, cap⟩)) (Mut (upd μ S.n (some ⟨w.heap.size, size, cap⟩)) (S.push o)) { w with heap := w.heap.push ob } := by
    refine ⟨fun j c hj => ?_, fun b hb hm => ?_, by simp, fun b hb _ => ?_, rfl, rfl, rfl⟩
    · have : j ≠ S.n := fun e => by subst e; rw [hl] at hj; cases hj
      rw [upd_ne _ _ this]; exact hj
    · obtain ⟨j, x, c, h1, h2, h3⟩ := hm
      by_cases e : j = S.n
      · subst e; rw [upd_same] at h2; cases h2; simp at h3; omega
      · rw [Store.get_push_ne _ _ e] at h1; rw [upd_ne _ _ e] at h2; exact ⟨j, x, c, h1, h2, h3⟩
    · show (w.heap.push ob)[b]? = _
      rw [Array.getElem?_push, if_neg (by omega)]
  refine ⟨⟨fun j x hj => ?_, fun j j' x x' c c' h1 h2 h3 h4 h5 => ?_, fun j c hj => ?_⟩, k⟩
  · by_cases e : j = S.n
    · subst e; rw [Store.get_push_same] at hj; cases hj
      exact ⟨_, upd_same _ _ _, ho _ _ _ rfl (fun x v => Rep.keep k x v) (fun x v => RepVals.keep k x v)⟩
    · rw [Store.get_push_ne _ _ e] at hj
      obtain ⟨c, h1, h2⟩ := h.objs j x hj
      refine ⟨c, by rw [upd_ne _ _ e]; exact h1, h2.keep k ?_⟩
      show (w.heap.push ob)[c.block]? = _
      have := h2.block_lt
      rw [Array.getElem?_push, if_neg (by omega)]
  · have blk : ∀ j x c, (S.push o).get j = some x → (upd μ S.n (some ⟨w.heap.size, size, cap⟩)) j = some c → (j = S.n ∧ c.block = w.heap.size) ∨ (j ≠ S.n ∧ S.get j = some x ∧ μ j = some c ∧ c.block < w.heap.size) := by
      intro j x c hj hc
      by_cases e : j = S.n
      · subst e; rw [upd_same] at hc; cases hc; exact .inl ⟨rfl, rfl⟩
      · rw [Store.get_push_ne _ _ e] at hj; rw [upd_ne _ _ e] at hc
        obtain ⟨d, h1, h2⟩ := h.objs j x hj
        rw [hc] at h1; cases h1
        exact .inr ⟨e, hj, hc, h2.block_lt⟩
    rcases blk j x c h1 h3 with ⟨e, b⟩ | ⟨e, a1, a2, b⟩ <;> rcases blk j' x' c' h2 h4 with ⟨e', b'⟩ | ⟨e', a1', a2', b'⟩
    · rw [e, e']
    · omega
    · omega
    · exact h.inj j j' x x' c c' a1 a1' a2 a2' h5
  · rw [Store.n_push]
    by_cases e : j = S.n
    · omega
    · rw [upd_ne _ _ e] at hj; have := h.fin j c hj; omega

/-- An object moves to a new name; its block turns, or it lies in a new one. -/
theorem Repr.rename {μ S w} (h : Repr μ S w) {l : Nat} {o : AObj} {c : Loc} (hl : S.get l = some o) (hc : μ l = some c) :
    ∃ μ', μ' S.n = some c ∧ Repr μ' ((S.set l none).push o) w ∧ Keeps μ (Mut μ S) w μ' (Mut μ' ((S.set l none).push o)) w := by
  obtain ⟨hl', hS'⟩ := h.next
  have hne : S.n ≠ l := fun e => by rw [← e, hl'] at hc; cases hc
  refine ⟨upd μ S.n (some c), upd_same _ _ _, ?_⟩
  have back : ∀ j x d, ((S.set l none).push o).get j = some x → (upd μ S.n (some c)) j = some d → ∃ i, (j = S.n ∧ i = l ∨ j ≠ S.n ∧ j ≠ l ∧ i = j) ∧ S.get i = some x ∧ μ i = some d := by
    intro j x d h1 h2
    rw [Store.get_push, Store.n_set] at h1
    by_cases e : j = S.n
    · subst e; rw [if_pos rfl] at h1; rw [upd_same] at h2; cases h1; cases h2; exact ⟨l, .inl ⟨rfl, rfl⟩, hl, hc⟩
    · rw [if_neg e, Store.get_set] at h1; rw [upd_ne _ _ e] at h2
      by_cases e2 : j = l
      · rw [if_pos e2] at h1; cases h1
      · rw [if_neg e2] at h1; exact ⟨j, .inr ⟨e, e2, rfl⟩, h1, h2⟩
  have hM : ∀ b, Mut (upd μ S.n (some c)) ((S.set l none).push o) b → Mut μ S b := by
    rintro b ⟨j, x, d, h1, h2, h3⟩
    obtain ⟨i, _, a1, a2⟩ := back j x d h1 h2
    exact ⟨i, x, d, a1, a2, h3⟩
  have k : Keeps μ (Mut μ S) w (upd μ S.n (some c)) (Mut (upd μ S.n (some c)) ((S.set l none).push o)) w := by
    refine ⟨fun j d hj => ?_, fun b _ hm => hM b hm, Nat.le_refl _, fun _ _ _ => rfl, rfl, rfl, rfl⟩
    have : j ≠ S.n := fun e => by subst e; rw [hl'] at hj; cases hj
    rw [upd_ne _ _ this]; exact hj
  refine ⟨⟨fun j x hj => ?_, fun j j' x x' d d' h1 h2 h3 h4 h5 => ?_, fun j d hj => ?_⟩, k⟩
  · have : ∃ d, (upd μ S.n (some c)) j = some d := by
      rw [Store.get_push, Store.n_set] at hj
      by_cases e : j = S.n
      · subst e; exact ⟨c, upd_same _ _ _⟩
      · rw [if_neg e, Store.get_set] at hj
        by_cases e2 : j = l
        · rw [if_pos e2] at hj; cases hj
        · rw [if_neg e2] at hj
          obtain ⟨d, h1, _⟩ := h.objs j x hj
          exact ⟨d, by rw [upd_ne _ _ e]; exact h1⟩
    obtain ⟨d, hd⟩ := this
    obtain ⟨i, _, h1, h2⟩ := back j x d hj hd
    obtain ⟨d', h3, h4⟩ := h.objs i x h1
    rw [h2] at h3; cases h3
    exact ⟨d, hd, h4.keep k rfl⟩
  · obtain ⟨i, hi, a1, a2⟩ := back j x d h1 h3
    obtain ⟨i', hi', a1', a2'⟩ := back j' x' d' h2 h4
    have := h.inj i i' x x' d d' a1 a1' a2 a2' h5
    rcases hi with ⟨e, e1⟩ | ⟨e, e1, e2⟩ <;> rcases hi' with ⟨f, f1⟩ | ⟨f, f1, f2⟩
    · rw [e, f]
    · subst e1; subst f2; exact absurd this.symm f1
    · subst f1; subst e2; exact absurd this e1
    · rw [← e2, ← f2]; exact this
  · show j < (S.set l none).n + 1
    rw [Store.n_set]
    by_cases e : j = S.n
    · omega
    · rw [upd_ne _ _ e] at hj; have := h.fin j d hj; omega

/-! ## Names below a bound -/
mutual
def nm (n : Nat) : AV → Prop
  | .ptr l _ | .rptr l _ _ | .own l _ _ | .mp l => l < n
  | .rop cs _ => nmL n cs
  | .sl _ es _ => nmLL n es
  | .fn _ cap => nmL n cap
  | .ifc _ v => nm n v
  | .agg cs => nmL n cs
  | .tup vs => nmL n vs
  | .int _ _ | .bool _ | .str _ | .lit _ | .und | .junk => True
def nmL (n : Nat) : List AV → Prop
  | [] => True
  | c :: cs => nm n c ∧ nmL n cs
def nmLL (n : Nat) : List (List AV) → Prop
  | [] => True
  | c :: cs => nmL n c ∧ nmLL n cs
end
def nmO (n : Nat) : AObj → Prop
  | .box _ cs => nmL n cs
  | .row _ _ _ es => nmLL n es
  | .mpo f => ∀ k v, f k = some v → nm n v

theorem nmL_append (n : Nat) (a b : List AV) : nmL n (a ++ b) ↔ nmL n a ∧ nmL n b := by
  induction a with
  | nil => simp [nmL]
  | cons c a ih => simp [nmL, ih, and_assoc]
theorem nmLL_append (n : Nat) (a b : List (List AV)) : nmLL n (a ++ b) ↔ nmLL n a ∧ nmLL n b := by
  induction a with
  | nil => simp [nmLL]
  | cons c a ih => simp [nmLL, ih, and_assoc]
theorem nmLL_of (n : Nat) : ∀ (l : List (List AV)), (∀ x ∈ l, nmL n x) → nmLL n l
  | [], _ => by simp [nmLL]
  | c :: l, h => by simp only [nmLL]; exact ⟨h c (by simp), nmLL_of n l fun x hx => h x (by simp [hx])⟩
theorem nmLL_flatten (n : Nat) : ∀ (l : List (List AV)), nmL n l.flatten → nmLL n l
  | [], _ => by simp [nmLL]
  | c :: l, h => by simp only [List.flatten_cons, nmL_append] at h; simp only [nmLL]; exact ⟨h.1, nmLL_flatten n l h.2⟩

mutual
theorem Rep.names {μ : Mu} {n : Nat} (hn : ∀ l c, μ l = some c → l < n) {M w} : ∀ (x : AV) (v : Value), Rep μ M w x v → nm n x
  | .int _ _, v, h => by simp only [nm]
  | .bool _, v, h => by simp only [nm]
  | .str _, v, h => by simp only [nm]
  | .lit _, v, h => by simp only [nm]
  | .und, v, h => by simp only [nm]
  | .junk, v, h => by simp only [nm]
  | .ptr l off, v, h => by simp only [Rep] at h; obtain ⟨c, h1, _⟩ := h; simp only [nm]; exact hn _ _ h1
  | .rptr l i r, v, h => by simp only [Rep] at h; obtain ⟨c, h1, _⟩ := h; simp only [nm]; exact hn _ _ h1
  | .own l off len, v, h => by simp only [Rep] at h; obtain ⟨c, _, h1, _⟩ := h; simp only [nm]; exact hn _ _ h1
  | .mp l, v, h => by simp only [Rep] at h; obtain ⟨c, h1, _⟩ := h; simp only [nm]; exact hn _ _ h1
  | .rop cs r, v, h => by simp only [Rep] at h; obtain ⟨b, o, _, _, _, h1⟩ := h; simp only [nm]; exact RepCells.names hn cs b o h1
  | .sl s es _, v, h => by
    simp only [Rep] at h
    obtain ⟨A, c, _, _, _, _, _, h1⟩ := h
    simp only [nm]
    rcases h1 with h1 | ⟨b, o, _, _, _, h1⟩
    · subst h1; simp only [nmLL]
    · exact RepRow.names hn s es b o h1
  | .fn f cap, v, h => by simp only [Rep] at h; obtain ⟨vs, _, h1⟩ := h; simp only [nm]; exact RepVals.names hn cap _ h1
  | .ifc t x, v, h => by simp only [Rep] at h; obtain ⟨u, _, h1⟩ := h; simp only [nm]; exact Rep.names hn x u h1
  | .agg cs, v, h => by simp only [Rep] at h; obtain ⟨vs, _, h1, _⟩ := h; simp only [nm]; exact RepVals.names hn cs _ h1
  | .tup cs, v, h => by simp only [Rep] at h; obtain ⟨vs, _, h1⟩ := h; simp only [nm]; exact RepVals.names hn cs _ h1
theorem RepVals.names {μ : Mu} {n : Nat} (hn : ∀ l c, μ l = some c → l < n) {M w} : ∀ (cs : List AV) (vs : List Value), RepVals μ M w cs vs → nmL n cs
  | [], vs, h => by simp only [nmL]
  | c :: cs, vs, h => by
    simp only [RepVals] at h
    obtain ⟨v, vs', _, h2, h3⟩ := h
    simp only [nmL]
    exact ⟨Rep.names hn c v h2, RepVals.names hn cs vs' h3⟩
theorem RepCells.names {μ : Mu} {n : Nat} (hn : ∀ l c, μ l = some c → l < n) {M w} : ∀ (cs : List AV) (b o : Nat), RepCells μ M w cs b o → nmL n cs
  | [], b, o, h => by simp only [nmL]
  | c :: cs, b, o, h => by
    simp only [RepCells] at h
    obtain ⟨⟨v, _, _, h3⟩, h4⟩ := h
    simp only [nmL]
    exact ⟨Rep.names hn c v h3, RepCells.names hn cs b (o + 1) h4⟩
theorem RepRow.names {μ : Mu} {n : Nat} (hn : ∀ l c, μ l = some c → l < n) {M w} (s : Nat) : ∀ (es : List (List AV)) (b o : Nat), RepRow μ M w s es b o → nmLL n es
  | [], b, o, h => by simp only [nmLL]
  | cs :: es, b, o, h => by
    simp only [RepRow] at h
    simp only [nmLL]
    exact ⟨RepCells.names hn cs b o h.1, RepRow.names hn s es b (o + s) h.2⟩
end

def cutMu (n : Nat) (μ : Mu) : Mu := fun l => if l < n then μ l else none
mutual
theorem Rep.cut {μ : Mu} (n : Nat) {M w} : ∀ (x : AV) (v : Value), Rep μ M w x v → nm n x → Rep (cutMu n μ) M w x v
  | .int _ _, v, h, _ => by simpa only [Rep] using h
  | .bool _, v, h, _ => by simpa only [Rep] using h
  | .str _, v, h, _ => by simpa only [Rep] using h
  | .lit _, v, h, _ => by simpa only [Rep] using h
  | .und, v, h, _ => by simpa only [Rep] using h
  | .junk, v, h, _ => by simp only [Rep]
  | .ptr l off, v, h, k => by simp only [Rep, nm, cutMu] at h k ⊢; simpa only [if_pos k] using h
  | .rptr l i r, v, h, k => by simp only [Rep, nm, cutMu] at h k ⊢; simpa only [if_pos k] using h
  | .own l off len, v, h, k => by simp only [Rep, nm, cutMu] at h k ⊢; simpa only [if_pos k] using h
  | .mp l, v, h, k => by simp only [Rep, nm, cutMu] at h k ⊢; simpa only [if_pos k] using h
  | .rop cs r, v, h, k => by
    simp only [Rep, nm] at h k ⊢
    obtain ⟨b, o, h1, h2, h3, h4⟩ := h
    exact ⟨b, o, h1, h2, h3, RepCells.cut n cs b o h4 k⟩
  | .sl s es _, v, h, k => by
    simp only [Rep, nm] at h k ⊢
    obtain ⟨A, c, h0, h1, h2, h3, h4, h5⟩ := h
    refine ⟨A, c, h0, h1, h2, h3, h4, ?_⟩
    rcases h5 with h5 | ⟨b, o, a1, a2, a3, a4⟩
    · exact .inl h5
    · exact .inr ⟨b, o, a1, a2, a3, RepRow.cut n s es b o a4 k⟩
  | .fn f cap, v, h, k => by simp only [Rep, nm] at h k ⊢; obtain ⟨vs, h1, h2⟩ := h; exact ⟨vs, h1, RepVals.cut n cap _ h2 k⟩
  | .ifc t x, v, h, k => by simp only [Rep, nm] at h k ⊢; obtain ⟨u, h1, h2⟩ := h; exact ⟨u, h1, Rep.cut n x u h2 k⟩
  | .agg cs, v, h, k => by simp only [Rep, nm] at h k ⊢; obtain ⟨vs, h1, h2, h3⟩ := h; exact ⟨vs, h1, RepVals.cut n cs _ h2 k, h3⟩
  | .tup cs, v, h, k => by simp only [Rep, nm] at h k ⊢; obtain ⟨vs, h1, h2⟩ := h; exact ⟨vs, h1, RepVals.cut n cs _ h2 k⟩
theorem RepVals.cut {μ : Mu} (n : Nat) {M w} : ∀ (cs : List AV) (vs : List Value), RepVals μ M w cs vs → nmL n cs → RepVals (cutMu n μ) M w cs vs
  | [], vs, h, _ => by simpa only [RepVals] using h
  | c :: cs, vs, h, k => by
    simp only [RepVals, nmL] at h k ⊢
    obtain ⟨v, vs', h1, h2, h3⟩ := h
    exact ⟨v, vs', h1, Rep.cut n c v h2 k.1, RepVals.cut n cs vs' h3 k.2⟩
theorem RepCells.cut {μ : Mu} (n : Nat) {M w} : ∀ (cs : List AV) (b o : Nat), RepCells μ M w cs b o → nmL n cs → RepCells (cutMu n μ) M w cs b o
  | [], b, o, h, _ => by simp only [RepCells]
  | c :: cs, b, o, h, k => by
    simp only [RepCells, nmL] at h k ⊢
    obtain ⟨⟨v, h1, h2, h3⟩, h4⟩ := h
    exact ⟨⟨v, h1, h2, Rep.cut n c v h3 k.1⟩, RepCells.cut n cs b (o + 1) h4 k.2⟩
theorem RepRow.cut {μ : Mu} (n : Nat) {M w} (s : Nat) : ∀ (es : List (List AV)) (b o : Nat), RepRow μ M w s es b o → nmLL n es → RepRow (cutMu n μ) M w s es b o
  | [], b, o, h, _ => by simp only [RepRow]
  | cs :: es, b, o, h, k => by
    simp only [RepRow, nmLL] at h k ⊢
    exact ⟨RepCells.cut n cs b o h.1 k.1, RepRow.cut n s es b (o + s) h.2 k.2⟩
end

theorem flatten_nm (n : Nat) : ∀ (l : List (List AV)), nmLL n l → nmL n l.flatten
  | [], _ => by simp [nmL]
  | c :: l, h => by simp only [nmLL] at h; simp only [List.flatten_cons, nmL_append]; exact ⟨h.1, flatten_nm n l h.2⟩

theorem ObjRep.names {μ : Mu} {n : Nat} (hn : ∀ l c, μ l = some c → l < n) {M w c o} (h : ObjRep μ M w c o) : nmO n o := by
  cases o with
  | box t cs => obtain ⟨arr, _, h2, _⟩ := h; exact RepVals.names hn cs _ h2
  | row t s frz es => obtain ⟨_, arr, fr, _, _, _, _, _, h6, _⟩ := h; exact nmLL_flatten n es (RepVals.names hn es.flatten _ h6)
  | mpo f =>
    obtain ⟨es, clock, _, _, h3, _⟩ := h
    exact fun k v hv => by obtain ⟨y, _, g2⟩ := h3 k v hv; exact Rep.names hn v y g2

theorem ObjRep.cut {μ : Mu} (n : Nat) {M w c o} (h : ObjRep μ M w c o) (k : nmO n o) : ObjRep (cutMu n μ) M w c o := by
  cases o with
  | box t cs =>
    obtain ⟨arr, h1, h2, h3⟩ := h
    exact ⟨arr, h1, RepVals.cut n cs _ h2 k, h3⟩
  | row t s frz es =>
    obtain ⟨h0, arr, fr, h1, h2, h3, h4, h5, h6, h7, h8, h9⟩ := h
    exact ⟨h0, arr, fr, h1, h2, h3, h4, h5, RepVals.cut n _ _ h6 (flatten_nm n es k), h7, h8, h9⟩
  | mpo f =>
    obtain ⟨es, clock, h1, h2, h3, h4⟩ := h
    exact ⟨es, clock, h1, h2, fun x v hv => by
      obtain ⟨y, g1, g2⟩ := h3 x v hv
      exact ⟨y, g1, Rep.cut n v y g2 (k x v hv)⟩, h4⟩

/-- The names from `T.n` on are given back. -/
theorem Repr.reset {μ S T w} (h : Repr μ S w) (hn : T.n ≤ S.n) (hT : ∀ l o, T.get l = some o → S.get l = some o ∧ l < T.n ∧ nmO T.n o) :
    Repr (cutMu T.n μ) T w ∧ (∀ b, Mut (cutMu T.n μ) T b → Mut μ S b) ∧ (∀ x v, Rep μ (Mut μ S) w x v → nm T.n x → Rep (cutMu T.n μ) (Mut (cutMu T.n μ) T) w x v) := by
  have hM : ∀ b, Mut (cutMu T.n μ) T b → Mut μ S b := by
    rintro b ⟨l, o, c, h1, h2, h3⟩
    obtain ⟨a1, a2, _⟩ := hT l o h1
    simp only [cutMu, if_pos a2] at h2
    exact ⟨l, o, c, a1, h2, h3⟩
  have k : Keeps (cutMu T.n μ) (Mut μ S) w (cutMu T.n μ) (Mut (cutMu T.n μ) T) w := ⟨fun _ _ h => h, fun b _ m => hM b m, Nat.le_refl _, fun _ _ _ => rfl, rfl, rfl, rfl⟩
  refine ⟨⟨fun l o e => ?_, fun l l' o o' c c' h1 h2 h3 h4 h5 => ?_, fun l c hc => ?_⟩, hM, fun x v hx hnm => (Rep.cut T.n x v hx hnm).keep k⟩
  · obtain ⟨a1, a2, a3⟩ := hT l o e
    obtain ⟨c, h1, h2⟩ := h.objs l o a1
    exact ⟨c, by simp only [cutMu, if_pos a2]; exact h1, (h2.cut T.n a3).keep k rfl⟩
  · obtain ⟨a1, a2, a3⟩ := hT l o h1
    obtain ⟨b1, b2, b3⟩ := hT l' o' h2
    simp only [cutMu, if_pos a2] at h3
    simp only [cutMu, if_pos b2] at h4
    exact h.inj l l' o o' c c' a1 b1 h3 h4 h5
  · unfold cutMu at hc
    split at hc
    · assumption
    · cases hc
end Go.Proofs.YtajbeippbabhhaaGreatDoor.Eng

namespace Go.Proofs.YtajbeippbabhhaaGreatDoor.Eng
open Go

/-! ## The lowered code -/

inductive LX where
  | tmp (t : Nat)
  | con (x : AV)

inductive Cvt where
  | int (k : IntKind)
  | b2s
  | s2b (t : TypeId)
  | same

inductive LOp where
  | mv (x : LX)
  | pick (c a b : LX)
  | box (t : TypeId) (x : LX)
  | alloc (t : TypeId) (cs : List AV)
  | load (ag : Bool) (n : Nat) (x : LX)
  | store (n : Nat) (p x : LX)
  | faddr (off : Nat) (x : LX)
  | nilchk (x : LX)
  | bin (op : BinOp) (x y : LX)
  | eqb (neg : Bool) (x y : LX)
  | un (op : UnOp) (x : LX)
  | cvt (c : Cvt) (x : LX)
  | fld (ag : Bool) (off n : Nat) (x : LX)
  | idx (x i : LX)
  | iaddr (s : Nat) (x i : LX)
  | slcS (x : LX) (lo hi : Option LX)
  | slc (s : Nat) (x : LX) (lo hi : Option LX)
  | build (zero : List AV) (parts : List (Nat × Nat × LX))
  | bslice (t s : Nat) (xs : List LX)
  | brow (t s : Nat) (xs : List LX)
  | mkslice (t s bytes : Nat) (zero : List AV) (n c : LX)
  | extr (i : Nat) (x : LX)
  | call (f : FuncId) (args : List LX)
  | callv (x : LX) (args : List LX)
  | len (x : LX)
  | lenS (x : LX)
  | minI (x y : LX)
  | append (str : Bool) (t s bytes : Nat) (x y : LX)
  | iface (t : TypeId) (x : LX)
  | mkfn (f : Fn) (cap : List LX)
  | panic (x : LX)
  | raw (o : Oper)
  | peq (neg : Bool) (x y : LX)
  | p2u (x : LX)
  | u2p (t n : Nat) (x : LX)
  | noesc (x : LX)
  | sdata (x : LX)
  | sstr (e : Nat) (x n : LX)
  | copyS (x y : LX)
  | inil (neg : Bool) (x : LX)
  | tass (t : Nat) (x : LX)
  | deq (neg : Bool) (tab : List (Nat × Nat × List (Nat × Nat))) (ks : List (Nat × Nat)) (x y : LX)

  | mkmap
  | mins (m k x : LX)
  | mget (z : AV) (m k : LX)

structure LGrp where
  guard : Option (Nat × Bool)
  ops : List (Option Nat × LOp)

/-- An operation of a region whose operations may stand in another order. `eff`: it moves the store; `back`, `fwd`: how many movers ahead of it may stand behind it, and the other way. -/
structure DOp where
  dst : Option Nat
  guard : Option (Nat × Bool)
  op : LOp
  eff : Bool
  back : Nat
  fwd : Nat

inductive LCode where
  | skip
  | region (l : List LGrp)
  | quiet (l : List DOp)
  | draw (l : List DOp)
  | fork (ls : List (List DOp))
  | seq (a b : LCode)
  | cond (c : LX) (a b : LCode)
  | block (id : Nat) (a : LCode)
  | loop (a : LCode)
  | exit (id : Nat)
  | ret
  | bad

inductive LRes where
  | tmp (t : Nat)
  | cell (a : Nat) (ag : Bool) (n : Nat)

structure LFunc where
  ntmps : Nat
  results : List LRes
  body : LCode

/-! ## What is asked of the lowered code -/

abbrev Fr := Nat → AV
def ev (fr : Fr) : LX → AV
  | .tmp t => fr t
  | .con x => x

inductive AEnd where
  | ret (v : AV)
  | pan (v : AV)

def RepEnd (μ : Mu) (M : Nat → Prop) (w : World) : AEnd → Ending → Prop
  | .ret v, .returned u => Rep μ M w v u
  | .pan v, .panicked ch => ∃ u, ch = [{ v := u, recovered := false }] ∧ Rep μ M w v u
  | _, _ => False

def ACalls (P : Program) (f : FuncId) (args : List AV) (S : Store) (K : AEnd → Store → Prop) : Prop :=
  ∀ μ w vs, Repr μ S w → RepVals μ (Mut μ S) w args vs →
    Calls P f vs.toArray w fun e w' => ∃ μ' S' r, K r S' ∧ Repr μ' S' w' ∧ Keeps μ (Mut μ S) w μ' (Mut μ' S') w' ∧ RepEnd μ' (Mut μ' S') w' r e

def cellsOf : AV → Option (List AV)
  | .agg cs => some cs
  | .tup _ | .und | .junk => none
  | x => some [x]

def mk (ag : Bool) (cs : List AV) : AV := if ag then .agg cs else cs.headD .junk

def deref (S : Store) : AV → Option (List AV)
  | .ptr l off => match S.get l with
    | some (.box _ cs) => some (cs.drop off)
    | _ => none
  | .rptr l i r => match S.get l with
    | some (.row _ _ _ es) => match es[i]? with
      | some cs => some (cs.drop r)
      | none => none
    | _ => none
  | .rop cs r => some (cs.drop r)
  | _ => none

def splice (cs : List AV) (off : Nat) : List AV → List AV
  | [] => cs
  | c :: new => splice (cs.set off c) (off + 1) new

def putRef (S : Store) (p : AV) (new : List AV) : Option Store :=
  match p with
  | .ptr l off => match S.get l with
    | some (.box t cs) => if off + new.length ≤ cs.length then some (S.set l (some (.box t (splice cs off new)))) else none
    | _ => none
  | .rptr l i r => match S.get l with
    | some (.row t s 0 es) => match es[i]? with
      | some cs => if r + new.length ≤ cs.length then some (S.set l (some (.row t s 0 (es.set i (splice cs r new))))) else none
      | none => none
    | _ => none
  | _ => none

def faddrV (off : Nat) : AV → Option AV
  | .ptr l o => some (.ptr l (o + off))
  | .rop cs r => some (.rop cs (r + off))
  | .rptr l i r => some (.rptr l i (r + off))
  | _ => none

def isPtr : AV → Bool
  | .ptr _ _ | .rop _ _ | .rptr _ _ _ => true
  | _ => false

/-- The same as `bits`, under a name of its own. -/
def bitsA (k : IntKind) : Nat := k.bits
def ibits (k : IntKind) (op : BinOp) (a b : Int) : Option Int :=
  match op with
  | .and => some (k.wrap (BitVec.ofInt (bitsA k) a &&& BitVec.ofInt (bitsA k) b).toNat)
  | .or => some (k.wrap (BitVec.ofInt (bitsA k) a ||| BitVec.ofInt (bitsA k) b).toNat)
  | .xor => some (k.wrap (BitVec.ofInt (bitsA k) a ^^^ BitVec.ofInt (bitsA k) b).toNat)
  | .andNot => some (k.wrap (BitVec.ofInt k.bits a &&& ~~~(BitVec.ofInt k.bits b)).toNat)
  | _ => none

def abinI (op : BinOp) (k : IntKind) (a b : Int) : Option AV :=
  match op with
  | .add => some (.int k (k.wrap (a + b)))
  | .sub => some (.int k (k.wrap (a - b)))
  | .mul => some (.int k (k.wrap (a * b)))
  | .quo => if b = 0 then none else some (.int k (k.wrap (a.tdiv b)))
  | .rem => if b = 0 then none else some (.int k (a.tmod b))
  | .eql => some (.bool (decide (a = b)))
  | .neq => some (.bool (decide (a ≠ b)))
  | .lss => some (.bool (decide (a < b)))
  | .leq => some (.bool (decide (a ≤ b)))
  | .gtr => some (.bool (decide (a > b)))
  | .geq => some (.bool (decide (a ≥ b)))
  | .and => (ibits k .and a b).map (.int k)
  | .or => (ibits k .or a b).map (.int k)
  | .xor => (ibits k .xor a b).map (.int k)
  | .andNot => (ibits k .andNot a b).map (.int k)
  | .shl | .shr => none

def ashift (op : BinOp) (k : IntKind) (a b : Int) : Option AV :=
  if b < 0 then none else
  match op with
  | .shl => some (.int k (k.wrap (a * 2 ^ min b.toNat (bitsA k))))
  | .shr => some (.int k (a.fdiv (2 ^ min b.toNat (bitsA k))))
  | _ => none

inductive Out where
  | val (v : AV)
  | st (v : AV) (S : Store)
  | asks (need give : Prop) (v : AV) (S : Store)
  | call (f : FuncId) (args : List AV)
  | pan (v : AV)

def abinS (S : Store) (op : BinOp) (a b : List UInt8) : Option Out :=
  match op with
  | .add => some (.asks (a.length + b.length ≤ strMax) True (.str (a ++ b)) S)
  | .eql => some (.val (.bool (decide (a = b))))
  | .neq => some (.val (.bool (decide (a ≠ b))))
  | .lss => some (.val (.bool (Op.bytesLess a b)))
  | .geq => some (.val (.bool (!Op.bytesLess a b)))
  | _ => none

def abin (S : Store) (op : BinOp) : AV → AV → Option Out
  | .int k a, .int k' b => match op with
    | .shl => (ashift .shl k a b).map .val
    | .shr => (ashift .shr k a b).map .val
    | op => if k = k' then (abinI op k a b).map .val else none
  | .str a, .str b => abinS S op a b
  | _, _ => none

def aeqb (neg : Bool) : AV → AV → Option AV
  | .bool a, .bool b => some (.bool (if neg then decide (a ≠ b) else decide (a = b)))
  | _, _ => none

def aun (op : UnOp) : AV → Option AV
  | .bool b => match op with
    | .not => some (.bool (!b))
    | _ => none
  | .int k n => match op with
    | .neg => some (.int k (k.wrap (0 - n)))
    | _ => none
  | _ => none

def fldV (ag : Bool) (off n : Nat) : AV → Option AV
  | .agg cs => if off + n ≤ cs.length then some (mk ag ((cs.drop off).take n)) else none
  | _ => none

def idxOf (fr : Fr) : Option LX → Nat → Option Nat
  | none, d => some d
  | some x, _ => match ev fr x with
    | .int _ i => if 0 ≤ i then some i.toNat else none
    | _ => none

def fillA (fr : Fr) (cs : List AV) : List (Nat × Nat × LX) → Option (List AV)
  | [] => some cs
  | (off, n, x) :: r => match cellsOf (ev fr x) with
    | some new => if new.length = n then if off + n ≤ cs.length then fillA fr (splice cs off new) r else none else none
    | none => none

def rowsA (s : Nat) (fr : Fr) : List LX → Option (List (List AV))
  | [] => some []
  | x :: r => match cellsOf (ev fr x) with
    | some cs => if cs.length = s then match rowsA s fr r with
      | some l => some (cs :: l)
      | none => none
      else none
    | none => none

def minV : AV → AV → Option AV
  | .int k a, .int _ b => some (.int k (if b < a then b else a))
  | _, _ => none

/-- The elements of a slice that is read. -/
def elems (S : Store) : AV → Option (Nat × List (List AV))
  | .sl s es n => some (s, es.take n)
  | .lit (.slice none 0 0) => some (0, [])
  | .own l off len => match S.get l with
    | some (.row _ s _ es) => if off + len ≤ es.length then some (s, (es.drop off).take len) else none
    | _ => none
  | _ => none

def elemsA (str : Bool) (S : Store) (y : AV) : Option (Nat × List (List AV)) := match str with
  | true => match y with
    | .str l => some (1, l.map fun b => [.int .u8 b.toNat])
    | _ => none
  | false => elems S y

def byteRow (l : List UInt8) : List (List AV) := l.map fun b => [.int .u8 b.toNat]
def bytesOf : List (List AV) → Option (List UInt8)
  | [] => some []
  | [.int .u8 n] :: r => match bytesOf r with
    | some l => some (UInt8.ofNat n.toNat :: l)
    | none => none
  | _ => none

def hasBody (P : Program) (f : FuncId) : Bool :=
  match P.funcs[f]? with
  | some fn => fn.body.isSome && !(fn.name == "runtime.NumGoroutine")
  | none => false

def peqV : AV → AV → Option Bool
  | .lit (.pointer none), .lit (.pointer none) => some true
  | .ptr _ _, .lit (.pointer none) | .rop _ _, .lit (.pointer none) | .rptr _ _ _, .lit (.pointer none) => some false
  | .lit (.pointer none), .ptr _ _ | .lit (.pointer none), .rop _ _ | .lit (.pointer none), .rptr _ _ _ => some false
  | .ptr l o, .ptr l' o' => if l = l' ∧ o = o' then some true else none
  | _, _ => none

def rowBytes : List (List AV) → Option (List UInt8)
  | [] => some []
  | [.int .u8 n] :: r => if 0 ≤ n ∧ n < 256 then match rowBytes r with
    | some l => some (UInt8.ofNat n.toNat :: l)
    | none => none
    else none
  | _ => none

/-! Equality of arrays and structs. A place and what stands there (0 an integer, 1 a bool, 2 a string, 3 an interface value); `tab`: what an interface value may hold (4: an array of such at places). -/
def eqS : Nat → AV → AV → Option Bool
  | 0, .int k a, .int k' b => if k = k' then some (decide (a = b)) else none
  | 1, .bool a, .bool b => some (decide (a = b))
  | 2, .str a, .str b => some (decide (a = b))
  | _, _, _ => none
def eqKs (f : Nat → AV → AV → Option Bool) (xs ys : List AV) : List (Nat × Nat) → Option Bool
  | [] => some true
  | (o, k) :: r => match xs[o]? with
    | some x => match ys[o]? with
      | some y => match f k x y with
        | some b => match eqKs f xs ys r with
          | some c => some (b && c)
          | none => none
        | none => none
      | none => none
    | none => none
abbrev EqTab := List (Nat × Nat × List (Nat × Nat))
def eqH (c : Nat) (ks : List (Nat × Nat)) (x y : AV) : Option Bool := if c = 4 then (match x, y with
    | .agg xs, .agg ys => eqKs eqS xs ys ks
    | _, _ => none) else eqS c x y
def tabAt (t : Nat) : EqTab → Option (Nat × List (Nat × Nat))
  | [] => none
  | (u, h) :: r => if u = t then some h else tabAt t r
def eqI (tab : EqTab) : AV → AV → Option Bool
  | .ifc t x, .ifc u y => if t = u then (match tabAt t tab with
    | some (c, ks) => eqH c ks x y
    | none => none) else some false
  | _, _ => none
def eqK (tab : EqTab) (k : Nat) (x y : AV) : Option Bool := if k = 3 then eqI tab x y else eqS k x y
def deqV (neg : Bool) (tab : EqTab) (ks : List (Nat × Nat)) : AV → AV → Option AV
  | .agg xs, .agg ys => (eqKs (eqK tab) xs ys ks).map fun b => .bool (if neg then !b else b)
  | _, _ => none

/-- The bytes are shared with the string: the row is given up. -/
def strOf (S : Store) (e : Nat) (x : AV) (k : Int) : Option (List UInt8 × Option Nat) :=

  if k = 0 then match x with
    | .lit (.pointer none) | .rptr _ _ _ => some ([], none)
    | _ => none
  else match x with
    | .rptr l 0 0 => match S.get l with
      | some (.row t 1 frz es) => if t = e ∧ 0 ≤ k ∧ k.toNat ≤ es.length then match rowBytes (es.take k.toNat) with
          | some bs => some (bs, some l)
          | none => none
        else none
      | _ => none
    | _ => none

def updI (f : Int → Option AV) (n : Int) (v : Option AV) : Int → Option AV := fun k => if k = n then v else f k
def mapAt (S : Store) : AV → Option (Nat × (Int → Option AV))
  | .mp l => match S.get l with
    | some (.mpo f) => some (l, f)
    | _ => none
  | _ => none
def keyOf : AV → Option Int
  | .int .i64 n => some n
  | _ => none
def mgetV (z : AV) : Option AV → AV
  | some v => .tup [v, .bool true]
  | none => .tup [z, .bool false]
def minsV (S : Store) (x : AV) : Option (Nat × (Int → Option AV)) → Option Int → Option Out
  | some (l, f), some n => match f n with
    | none => some (.st .und (S.set l (some (.mpo (updI f n (some x))))))
    | some _ => none
  | _, _ => none
def mgetO (z : AV) : Option (Nat × (Int → Option AV)) → Option Int → Option Out
  | some (_, f), some n => some (.val (mgetV z (f n)))
  | _, _ => none

def stepOp (P : Program) (fr : Fr) (S : Store) : LOp → Option Out
  | .mv x => some (.val (ev fr x))
  | .pick c a b => match ev fr c with
    | .bool t => some (.val (if t then ev fr a else ev fr b))
    | _ => none
  | .box t x => match cellsOf (ev fr x) with
    | some cs => some (.st (.ptr S.n 0) (S.push (.box t cs)))
    | none => none
  | .alloc t cs => some (.st (.ptr S.n 0) (S.push (.box t cs)))
  | .load ag n x => match deref S (ev fr x) with
    | some cs => if n ≤ cs.length then some (.val (mk ag (cs.take n))) else none
    | none => none
  | .store n p x => match cellsOf (ev fr x) with
    | some cs => if cs.length = n then match putRef S (ev fr p) cs with
      | some S' => some (.st .und S')
      | none => none
      else none
    | none => none
  | .faddr off x => (faddrV off (ev fr x)).map .val
  | .nilchk x => if isPtr (ev fr x) then some (.val (ev fr x)) else none
  | .bin op x y => abin S op (ev fr x) (ev fr y)
  | .mkmap => some (.st (.mp S.n) (S.push (.mpo fun _ => none)))
  | .mins m k x => minsV S (ev fr x) (mapAt S (ev fr m)) (keyOf (ev fr k))
  | .mget z m k => mgetO z (mapAt S (ev fr m)) (keyOf (ev fr k))
  | .eqb neg x y => (aeqb neg (ev fr x) (ev fr y)).map .val
  | .deq neg tab ks x y => (deqV neg tab ks (ev fr x) (ev fr y)).map .val
  | .un op x => (aun op (ev fr x)).map .val
  | .cvt c x => match c with
    | .int k => match ev fr x with
      | .int _ n => some (.val (.int k (k.wrap n)))
      | _ => none
    | .b2s => match elems S (ev fr x) with
      | some (_, es) => (bytesOf es).map fun s => .asks True True (.str s) S
      | none => none
    | .s2b t => match ev fr x with
      | .str s => some (.asks (s.length ≤ lenMax) True (.own S.n 0 s.length) (S.push (.row t 1 0 (byteRow s))))
      | _ => none
    | .same => match ev fr x with
      | .str s => some (.val (.str s))
      | _ => none
  | .fld ag off n x => (fldV ag off n (ev fr x)).map .val
  | .idx x i => match ev fr x with
    | .str s => match ev fr i with
      | .int _ j => if 0 ≤ j then match s[j.toNat]? with
        | some b => some (.val (.int .u8 b.toNat))
        | none => none
        else none
      | _ => none
    | _ => none
  | .iaddr s x i => match ev fr i with
    | .int _ j => if 0 ≤ j then match ev fr x with
      | .sl s' es n => if s' = s ∧ j.toNat < n then match es[j.toNat]? with
        | some cs => some (.val (.rop cs 0))
        | none => none
        else none
      | .own l off len => match S.get l with
        | some (.row _ s' _ es) => if s' = s then some (.asks (j.toNat < len ∧ off + len ≤ es.length) True (.rptr l (off + j.toNat) 0) S) else none
        | _ => none
      | _ => none
      else none
    | _ => none
  | .slcS x lo hi => match ev fr x with
    | .str s => match idxOf fr lo 0, idxOf fr hi s.length with
      | some l, some h => if l ≤ h ∧ h ≤ s.length then some (.val (.str ((s.take h).drop l))) else none
      | _, _ => none
    | _ => none
  | .slc s x lo hi => match ev fr x with
    | .sl s' es n => if s' = s then match idxOf fr lo 0, idxOf fr hi n with
      | some l, some h => if l ≤ h ∧ h ≤ es.length then some (.val (.sl s (es.drop l) (h - l))) else none
      | _, _ => none
      else none
    | .own r off len => match S.get r with
      | some (.row _ s' _ es) => if s' = s then match idxOf fr lo 0, idxOf fr hi len with
        | some l, some h => if l ≤ h ∧ off + h ≤ es.length ∧ off + len ≤ es.length then some (.val (.own r (off + l) (h - l))) else none
        | _, _ => none
        else none
      | _ => none
    | _ => none
  | .build z ps => (fillA fr z ps).map fun cs => .val (.agg cs)
  | .bslice t s xs => (rowsA s fr xs).map fun es => .val (.sl s es es.length)
  | .brow t s xs => (rowsA s fr xs).map fun es => .st (.own S.n 0 es.length) (S.push (.row t s 0 es))
  | .mkslice t s bytes z n c => match ev fr n with
    | .int _ n' => match ev fr c with
      | .int _ c' => some (.asks (0 ≤ n' ∧ n' ≤ c' ∧ c' ≤ lenMax ∧ bytes * c' ≤ lenMax) True (.own S.n 0 n'.toNat) (S.push (.row t s 0 (List.replicate n'.toNat z))))
      | _ => none
    | _ => none
  | .extr i x => match ev fr x with
    | .tup vs => match vs[i]? with
      | some v => some (.val v)
      | none => none
    | _ => none
  | .call f args => some (.call f (args.map (ev fr)))
  | .callv x args => match ev fr x with
    | .fn (.func f) cap => if hasBody P f then some (.call f (args.map (ev fr) ++ cap)) else none
    | _ => none
  | .len x => match elems S (ev fr x) with
    | some (_, es) => some (.asks True (es.length ≤ lenMax) (.int .i64 es.length) S)
    | none => match ev fr x with
      | .own _ _ len => some (.val (.int .i64 len))
      | _ => none
  | .lenS x => match ev fr x with
    | .str s => some (.asks True (s.length ≤ strMax) (.int .i64 s.length) S)
    | _ => none
  | .minI x y => (minV (ev fr x) (ev fr y)).map .val
  | .append str t s bytes x y => match elemsA str S (ev fr y) with
    | some (s', ys) => match ev fr x with
      | .lit (.slice none 0 0) => match ys with
        | [] => some (.val (.lit (.slice none 0 0)))
        | y :: ys => some (.asks (s' = s ∧ (ys.length + 1) * bytes ≤ 140737488355328) True (.own S.n 0 (ys.length + 1)) (S.push (.row t s 0 (y :: ys))))
      | .own r 0 len => match S.get r with
        | some (.row t' s0 frz es) => some (.asks (t' = t ∧ s0 = s ∧ (ys = [] ∨ s' = s) ∧ len = es.length ∧ (es.length + ys.length) * bytes ≤ 140737488355328) True (.own S.n 0 (es.length + ys.length)) ((S.set r none).push (.row t s frz (es ++ ys))))
        | _ => none
      | _ => none
    | none => none
  | .iface t x => some (.val (.ifc t (ev fr x)))
  | .mkfn f cap => some (.val (.fn f (cap.map (ev fr))))
  | .panic x => match ev fr x with
    | .ifc t v => some (.pan (.ifc t v))
    | _ => none
  | .raw _ => none
  | .peq neg x y => (peqV (ev fr x) (ev fr y)).map fun b => .val (.bool (if neg then !b else b))
  | .p2u x => match ev fr x with
    | .ptr l o => match S.get l with
      | some (.box _ cs) => if o < cs.length then some (.val (.ptr l o)) else none
      | _ => none
    | _ => none
  | .u2p t n x => match ev fr x with
    | .ptr l 0 => match S.get l with
      | some (.box t' cs) => if t' = t ∧ cs.length = n then some (.val (.ptr l 0)) else none
      | _ => none
    | _ => none
  | .noesc x => some (.val (ev fr x))
  | .sdata x => match ev fr x with
    | .lit (.slice none 0 0) => some (.val (.lit (.pointer none)))
    | .own l off len => some (.asks (0 < len) True (.rptr l off 0) S)
    | _ => none
  | .sstr e x n => match ev fr n with
    | .int .i64 k => match strOf S e (ev fr x) k with
      | some (bs, none) => some (.st (.str bs) S)
      | some (bs, some l) => some (.st (.str bs) (S.set l none))
      | none => none
    | _ => none
  | .copyS x y => match ev fr x with
    | .own l off len => match S.get l with
      | some (.row t 1 0 es) => match ev fr y with
        | .str bs => some (.asks (off = 0 ∧ len = es.length ∧ bs.length = len) True (.int .i64 bs.length) (S.set l (some (.row t 1 0 (byteRow bs)))))
        | _ => none
      | _ => none
    | _ => none

  | .inil neg x => match ev fr x with
    | .ifc _ _ => some (.val (.bool neg))
    | .lit .nilIface => some (.val (.bool (!neg)))
    | _ => none
  | .tass t x => match ev fr x with
    | .ifc t' v => if t' = t then some (.val (.tup [v, .bool true])) else none
    | _ => none

def putF (fr : Fr) (d : Option Nat) (v : AV) : Fr :=
  match d with
  | some i => upd fr i v
  | none => fr

structure Pend where
  fr : Fr
  op : LOp
  v : AV
  n : Nat

def Pure (P : Program) (f : FuncId) (args : List AV) (v : AV) : Prop := ∀ S, ACalls P f args S fun r S' => r = .ret v ∧ S' = S

/-- What is put into maps: name and key to value. -/
abbrev Ins := Nat → Int → Option AV
def insF (g : Ins) (j : Nat) (f : Int → Option AV) : Int → Option AV := fun k => match g j k with
  | some v => some v
  | none => f k
def insO (g : Ins) (j : Nat) : Option AObj → Option AObj
  | some (.mpo f) => some (.mpo (insF g j f))
  | o => o
def addIns (g : Ins) (S : Store) : Store := ⟨fun j => insO g j (S.get j), S.n⟩
/-- A call that tells `v` and leaves the store as it is, whatever entries its maps hold. -/
def CallOk (P : Program) (f : FuncId) (args : List AV) (S : Store) (v : AV) : Prop := ∀ g : Ins, (∀ k, g S.n k = none) → ACalls P f args (addIns g S) fun r S' => r = .ret v ∧ S' = addIns g S
theorem Pure.ok {P : Program} {f : FuncId} {args : List AV} {v : AV} {S : Store} (h : Pure P f args v) : CallOk P f args S v := fun g _ => h _

def isIns : LOp → Bool
  | .mins .. => true
  | _ => false
def isGet : LOp → Bool
  | .mget .. => true
  | _ => false

/-- What an operation gives that leaves the store as it is, but for a map's new entry. -/
def Says (P : Program) (fr : Fr) (S : Store) (op : LOp) (v : AV) : Prop := match stepOp P fr S op with
  | some (.val u) => u = v
  | some (.asks p _ u S') => p ∧ u = v ∧ S' = S
  | some (.call f args) => CallOk P f args S v
  | some (.st u _) => isIns op = true ∧ u = v
  | _ => False

def allP (p : AV → Prop) : List AV → Prop
  | [] => True
  | x :: l => p x ∧ allP p l

def saysAll (P : Program) (fr : Fr) (op : LOp) (v : AV) : Nat → List Store → Prop
  | 0, _ => True
  | _ + 1, [] => True
  | n + 1, T :: l => Says P fr T op v ∧ saysAll P fr op v n l

def pendAll (P : Program) (S : Store) : List Pend → Prop
  | [] => True
  | ⟨fr, op, v, 0⟩ :: l => pendAll P S l
  | ⟨fr, op, v, n + 1⟩ :: l => Says P fr S op v ∧ pendAll P S l

def pendNext : List Pend → List Pend
  | [] => []
  | ⟨fr, op, v, 0⟩ :: l => pendNext l
  | ⟨fr, op, v, n + 1⟩ :: l => ⟨fr, op, v, n⟩ :: pendNext l

def addPend (fr : Fr) (op : LOp) (v : AV) (n : Nat) (l : List Pend) : List Pend := match n with
  | 0 => l
  | n + 1 => ⟨fr, op, v, n + 1⟩ :: l

def vcDOut (P : Program) (fr : Fr) (S : Store) (olds : List Store) (op : LOp) (b : Nat) (next : AV → Prop) : Option Out → Prop
  | some (.val v) => saysAll P fr op v b olds ∧ next v
  | some (.asks p g v S') => p ∧ S' = S ∧ saysAll P fr op v b olds ∧ next v
  | some (.call fn args) => ∃ v, CallOk P fn args S v ∧ saysAll P fr op v b olds ∧ next v
  | some (.st v _) => isIns op = true ∧ saysAll P fr op v b olds ∧ next v
  | _ => False
def vcDEff (P : Program) (pend : List Pend) (next : AV → Store → Prop) : Option Out → Prop
  | some (.st v S') => pendAll P S' pend ∧ next v S'
  | some (.asks p g v S') => p ∧ pendAll P S' pend ∧ next v S'
  | _ => False
def vcDGuard (want : Bool) (run skip und : Prop) : AV → Prop
  | .bool t => (t = want → run) ∧ (t = !want → skip)
  | .und => und
  | _ => False

/-- A region whose operations may stand in another order. -/
def vcD (P : Program) (K : Fr → Store → Prop) : List DOp → Fr → Store → List Store → List Pend → Prop
  | [], fr, S, _, _ => K fr S
  | ⟨dst, none, op, true, _, _⟩ :: rest, fr, S, olds, pend => vcDEff P pend (fun v S' => vcD P K rest (putF fr dst v) S' (S :: olds) (pendNext pend)) (stepOp P fr S op)
  | ⟨dst, some (g, want), op, true, _, _⟩ :: rest, fr, S, olds, pend => False
  | ⟨dst, none, op, false, b, f⟩ :: rest, fr, S, olds, pend => vcDOut P fr S olds op b (fun v => vcD P K rest (putF fr dst v) S olds (addPend fr op v f pend)) (stepOp P fr S op)
  | ⟨dst, some (g, want), op, false, b, f⟩ :: rest, fr, S, olds, pend => vcDGuard want
      (vcDOut P (upd fr g (.bool want)) S olds op b (fun v => vcD P K rest (putF (upd fr g (.bool want)) dst v) S olds (addPend (upd fr g (.bool want)) op v f pend)) (stepOp P (upd fr g (.bool want)) S op))
      (vcD P K rest (putF (upd fr g (.bool (!want))) dst .und) S olds pend)
      (vcD P K rest (putF fr dst .und) S olds pend) (fr g)
theorem vcD_nil (P : Program) (K : Fr → Store → Prop) (fr : Fr) (S : Store) (olds : List Store) (pend : List Pend) : vcD P K [] fr S olds pend = K fr S := by simp only [vcD]
theorem vcD_eff (P : Program) (K : Fr → Store → Prop) (dst : Option Nat) (op : LOp) (b f : Nat) (rest : List DOp) (fr : Fr) (S : Store) (olds : List Store) (pend : List Pend) :
    vcD P K (⟨dst, none, op, true, b, f⟩ :: rest) fr S olds pend = vcDEff P pend (fun v S' => vcD P K rest (putF fr dst v) S' (S :: olds) (pendNext pend)) (stepOp P fr S op) := by simp only [vcD]
theorem vcD_val (P : Program) (K : Fr → Store → Prop) (dst : Option Nat) (op : LOp) (b f : Nat) (rest : List DOp) (fr : Fr) (S : Store) (olds : List Store) (pend : List Pend) :
    vcD P K (⟨dst, none, op, false, b, f⟩ :: rest) fr S olds pend = vcDOut P fr S olds op b (fun v => vcD P K rest (putF fr dst v) S olds (addPend fr op v f pend)) (stepOp P fr S op) := by simp only [vcD]
theorem vcD_guard (P : Program) (K : Fr → Store → Prop) (dst : Option Nat) (g : Nat) (want : Bool) (op : LOp) (b f : Nat) (rest : List DOp) (fr : Fr) (S : Store) (olds : List Store) (pend : List Pend) :
    vcD P K (⟨dst, some (g, want), op, false, b, f⟩ :: rest) fr S olds pend = vcDGuard want
      (vcDOut P (upd fr g (.bool want)) S olds op b (fun v => vcD P K rest (putF (upd fr g (.bool want)) dst v) S olds (addPend (upd fr g (.bool want)) op v f pend)) (stepOp P (upd fr g (.bool want)) S op))
      (vcD P K rest (putF (upd fr g (.bool (!want))) dst .und) S olds pend)
      (vcD P K rest (putF fr dst .und) S olds pend) (fr g) := by simp only [vcD]

/-- The entries that a region puts into maps, put in at its end. -/
def fillD (next : Store → Prop) : Option Out → Prop
  | some (.st _ S') => next S'
  | _ => False
def fillO (P : Program) (fr : Fr) (S : Store) (next : Store → Prop) : LOp → Prop
  | .mins m k x => fillD next (minsV S (ev fr x) (mapAt S (ev fr m)) (keyOf (ev fr k)))
  | _ => next S
def fillK (P : Program) (K : Fr → Store → Prop) : List DOp → Fr → Store → Prop
  | [], fr, S => K fr S
  | d :: l, fr, S => fillO P fr S (fun S' => fillK P K l fr S') d.op
theorem fillK_nil (P : Program) (K : Fr → Store → Prop) (fr : Fr) (S : Store) : fillK P K [] fr S = K fr S := rfl
theorem fillK_cons (P : Program) (K : Fr → Store → Prop) (dst : Option Nat) (g : Option (Nat × Bool)) (op : LOp) (e : Bool) (b f : Nat) (l : List DOp) (fr : Fr) (S : Store) : fillK P K (⟨dst, g, op, e, b, f⟩ :: l) fr S = fillO P fr S (fun S' => fillK P K l fr S') op := rfl

/-- Every order of a few operations is walked. -/
def vcFork (P : Program) (K : Fr → Store → Prop) (fr : Fr) (S : Store) : List (List DOp) → Prop
  | [] => True
  | l :: ls => vcD P (fillK P K l) l fr S [] [] ∧ vcFork P K fr S ls
theorem vcFork_nil (P : Program) (K : Fr → Store → Prop) (fr : Fr) (S : Store) : vcFork P K fr S [] = True := rfl
theorem vcFork_cons (P : Program) (K : Fr → Store → Prop) (fr : Fr) (S : Store) (l : List DOp) (ls : List (List DOp)) : vcFork P K fr S (l :: ls) = (vcD P (fillK P K l) l fr S [] [] ∧ vcFork P K fr S ls) := rfl

inductive AExit where
  | normal
  | exit (id : Nat)
  | ret
  | pan (v : AV)

def vcOps (P : Program) (K : Fr → Store → Prop) (E : AV → Fr → Store → Prop) : List (Option Nat × LOp) → Fr → Store → Prop
  | [], fr, S => K fr S
  | (dst, op) :: rest, fr, S => match stepOp P fr S op with
    | some (.val v) => vcOps P K E rest (putF fr dst v) S
    | some (.st v S') => vcOps P K E rest (putF fr dst v) S'
    | some (.asks p g v S') => p ∧ (g → vcOps P K E rest (putF fr dst v) S')
    | some (.call f args) => ACalls P f args S fun r S' => match r with
      | .ret v => vcOps P K E rest (putF fr dst v) S'
      | .pan v => E v fr S'
    | some (.pan v) => E v fr S
    | none => False

def skipF (fr : Fr) : List (Option Nat × LOp) → Fr
  | [] => fr
  | (d, _) :: r => skipF (putF fr d .und) r

def vcGrps (P : Program) (K : Fr → Store → Prop) (E : AV → Fr → Store → Prop) : List LGrp → Fr → Store → Prop
  | [], fr, S => K fr S
  | ⟨none, ops⟩ :: rest, fr, S => vcOps P (vcGrps P K E rest) E ops fr S
  | ⟨some (g, want), ops⟩ :: rest, fr, S => match fr g with
    | .bool b => (b = want → vcOps P (vcGrps P K E rest) E ops (upd fr g (.bool want)) S) ∧ (b = !want → vcGrps P K E rest (skipF (upd fr g (.bool (!want))) ops) S)
    | .und => vcGrps P K E rest (skipF fr ops) S
    | _ => False

/-- What stands behind a call. -/
def KCall (P : Program) (K : Fr → Store → Prop) (E : AV → Fr → Store → Prop) (dst : Option Nat) (rest : List (Option Nat × LOp)) (fr : Fr) : AEnd → Store → Prop := fun r S' => match r with
  | .ret v => vcOps P K E rest (putF fr dst v) S'
  | .pan v => E v fr S'

def vcOut (P : Program) (K : Fr → Store → Prop) (E : AV → Fr → Store → Prop) (dst : Option Nat) (rest : List (Option Nat × LOp)) (fr : Fr) (S : Store) : Option Out → Prop
  | some (.val v) => vcOps P K E rest (putF fr dst v) S
  | some (.st v S') => vcOps P K E rest (putF fr dst v) S'
  | some (.asks p g v S') => p ∧ (g → vcOps P K E rest (putF fr dst v) S')
  | some (.call f args) => ACalls P f args S (KCall P K E dst rest fr)
  | some (.pan v) => E v fr S
  | none => False

section
variable (P : Program) (K : Fr → Store → Prop) (E : AV → Fr → Store → Prop)
theorem vcOps_nil (fr : Fr) (S : Store) : vcOps P K E [] fr S = K fr S := rfl
theorem vcOps_cons (dst : Option Nat) (op : LOp) (rest : List (Option Nat × LOp)) (fr : Fr) (S : Store) :
    vcOps P K E ((dst, op) :: rest) fr S = vcOut P K E dst rest fr S (stepOp P fr S op) := by
  simp only [vcOps, vcOut]; split <;> rfl
theorem vcGrps_nil (fr : Fr) (S : Store) : vcGrps P K E [] fr S = K fr S := rfl
theorem vcGrps_cons (ops : List (Option Nat × LOp)) (rest : List LGrp) (fr : Fr) (S : Store) :
    vcGrps P K E (⟨none, ops⟩ :: rest) fr S = vcOps P (vcGrps P K E rest) E ops fr S := rfl
def vcGuard (g : Nat) (want : Bool) (ops : List (Option Nat × LOp)) (rest : List LGrp) (fr : Fr) (S : Store) : AV → Prop
  | .bool b => (b = want → vcOps P (vcGrps P K E rest) E ops (upd fr g (.bool want)) S) ∧ (b = !want → vcGrps P K E rest (skipF (upd fr g (.bool (!want))) ops) S)
  | .und => vcGrps P K E rest (skipF fr ops) S
  | _ => False
theorem vcGrps_guard (g : Nat) (want : Bool) (ops : List (Option Nat × LOp)) (rest : List LGrp) (fr : Fr) (S : Store) :
    vcGrps P K E (⟨some (g, want), ops⟩ :: rest) fr S = vcGuard P K E g want ops rest fr S (fr g) := by
  simp only [vcGrps, vcGuard]
theorem KCall_ret (dst : Option Nat) (rest : List (Option Nat × LOp)) (fr : Fr) (v : AV) (S : Store) :
    KCall P K E dst rest fr (.ret v) S = vcOps P K E rest (putF fr dst v) S := rfl
theorem KCall_pan (dst : Option Nat) (rest : List (Option Nat × LOp)) (fr : Fr) (v : AV) (S : Store) :
    KCall P K E dst rest fr (.pan v) S = E v fr S := rfl
theorem skipF_nil (fr : Fr) : skipF fr [] = fr := rfl
theorem skipF_cons (fr : Fr) (d : Option Nat) (o : LOp) (r : List (Option Nat × LOp)) : skipF fr ((d, o) :: r) = skipF (putF fr d .und) r := rfl
end

abbrev Qx := AExit → Fr → Store → Prop

def ALoop (body : Qx → Fr → Store → Prop) (Q : Qx) (fr : Fr) (S : Store) : Prop :=
  ∃ (I : Nat → Fr → Store → Prop) (n : Nat), I n fr S ∧
    ∀ n fr S, I n fr S → body (fun e fr' S' => match e with
      | .normal => ∃ k, k < n ∧ I k fr' S'
      | e => Q e fr' S') fr S

def vc (P : Program) : LCode → Qx → Fr → Store → Prop
  | .skip, Q, fr, S => Q .normal fr S
  | .region l, Q, fr, S => vcGrps P (Q .normal) (fun v => Q (.pan v)) l fr S
  | .quiet l, Q, fr, S => vcD P (Q .normal) l fr S [] []
  | .draw l, Q, fr, S => vcD P (fillK P (Q .normal) l) l fr S [] []
  | .fork ls, Q, fr, S => vcFork P (Q .normal) fr S ls
  | .seq a b, Q, fr, S => vc P a (fun e => match e with
      | .normal => vc P b Q
      | e => Q e) fr S
  | .cond c a b, Q, fr, S => match ev fr c with
    | .bool t => (t = true → vc P a Q fr S) ∧ (t = false → vc P b Q fr S)
    | _ => False
  | .block id a, Q, fr, S => vc P a (fun e => match e with
      | .exit i => if i = id then Q .normal else Q (.exit i)
      | e => Q e) fr S
  | .loop a, Q, fr, S => ALoop (vc P a) Q fr S
  | .exit id, Q, fr, S => Q (.exit id) fr S
  | .ret, Q, fr, S => Q .ret fr S
  | .bad, Q, fr, S => False

def Qseq (P : Program) (b : LCode) (Q : Qx) : Qx := fun e => match e with
  | .normal => vc P b Q
  | e => Q e
def Qblk (id : Nat) (Q : Qx) : Qx := fun e => match e with
  | .exit i => if i = id then Q .normal else Q (.exit i)
  | e => Q e
def Qpan (Q : Qx) : AV → Fr → Store → Prop := fun v => Q (.pan v)
section
variable (P : Program) (Q : Qx) (fr : Fr) (S : Store)
theorem vc_skip : vc P .skip Q fr S = Q .normal fr S := rfl
theorem vc_region (l : List LGrp) : vc P (.region l) Q fr S = vcGrps P (Q .normal) (Qpan Q) l fr S := rfl
theorem vc_quiet (l : List DOp) : vc P (.quiet l) Q fr S = vcD P (Q .normal) l fr S [] [] := rfl
theorem vc_fork (ls : List (List DOp)) : vc P (.fork ls) Q fr S = vcFork P (Q .normal) fr S ls := rfl
theorem vc_draw (l : List DOp) : vc P (.draw l) Q fr S = vcD P (fillK P (Q .normal) l) l fr S [] [] := rfl
theorem vc_seq (a b : LCode) : vc P (.seq a b) Q fr S = vc P a (Qseq P b Q) fr S := rfl
def vcCond (a b : LCode) : AV → Prop
  | .bool t => (t = true → vc P a Q fr S) ∧ (t = false → vc P b Q fr S)
  | _ => False
theorem vc_cond (c : LX) (a b : LCode) : vc P (.cond c a b) Q fr S = vcCond P Q fr S a b (ev fr c) := by unfold vcCond; simp only [vc]
theorem vc_block (id : Nat) (a : LCode) : vc P (.block id a) Q fr S = vc P a (Qblk id Q) fr S := rfl
theorem vc_exit (id : Nat) : vc P (.exit id) Q fr S = Q (.exit id) fr S := rfl
theorem vc_bad : vc P .bad Q fr S = False := rfl
theorem vc_ret : vc P .ret Q fr S = Q .ret fr S := rfl
theorem Qseq_normal (b : LCode) : Qseq P b Q .normal fr S = vc P b Q fr S := rfl
theorem Qseq_exit (b : LCode) (i : Nat) : Qseq P b Q (.exit i) fr S = Q (.exit i) fr S := rfl
theorem Qseq_ret (b : LCode) : Qseq P b Q .ret fr S = Q .ret fr S := rfl
theorem Qseq_pan (b : LCode) (v : AV) : Qseq P b Q (.pan v) fr S = Q (.pan v) fr S := rfl
theorem Qblk_normal (id : Nat) : Qblk id Q .normal fr S = Q .normal fr S := rfl
theorem Qblk_exit (id i : Nat) : Qblk id Q (.exit i) fr S = if i = id then Q .normal fr S else Q (.exit i) fr S := by simp only [Qblk]; split <;> rfl
theorem Qblk_ret (id : Nat) : Qblk id Q .ret fr S = Q .ret fr S := rfl
theorem Qblk_pan (id : Nat) (v : AV) : Qblk id Q (.pan v) fr S = Q (.pan v) fr S := rfl
theorem Qpan_eq (v : AV) : Qpan Q v fr S = Q (.pan v) fr S := rfl
end
def Qloop (I : Nat → Fr → Store → Prop) (n : Nat) (Q : Qx) : Qx := fun e fr' S' => match e with
  | .normal => ∃ k, k < n ∧ I k fr' S'
  | e => Q e fr' S'
theorem vc_loop {P : Program} {Q : Qx} {fr : Fr} {S : Store} {a : LCode} (I : Nat → Fr → Store → Prop) (n : Nat) (h0 : I n fr S)
    (h : ∀ n fr S, I n fr S → vc P a (Qloop I n Q) fr S) : vc P (.loop a) Q fr S := ⟨I, n, h0, h⟩
section
variable (Q : Qx) (fr : Fr) (S : Store) (I : Nat → Fr → Store → Prop) (n : Nat)
theorem Qloop_normal : Qloop I n Q .normal fr S = ∃ k, k < n ∧ I k fr S := rfl
theorem Qloop_exit (i : Nat) : Qloop I n Q (.exit i) fr S = Q (.exit i) fr S := rfl
theorem Qloop_ret : Qloop I n Q .ret fr S = Q .ret fr S := rfl
theorem Qloop_pan (v : AV) : Qloop I n Q (.pan v) fr S = Q (.pan v) fr S := rfl
end

/-! ## Lowering -/

def ofV1 : Value → AV
  | .int k n => .int k n
  | .bool b => .bool b
  | .string s => .str s.data.toList
  | v => .lit v
def ofV : Value → AV
  | .agg cs => .agg (cs.toList.map ofV1)
  | v => ofV1 v
def okV1 : Value → Bool
  | .agg _ | .tuple _ => false
  | .string s => decide (s.data.toList.length ≤ 1048576)
  | _ => true
def okV : Value → Bool
  | .agg cs => cs.toList.all okV1
  | v => okV1 v

def lowerX : Operand → Option LX
  | .tmp t => some (.tmp t)
  | .const v => if okV v then some (.con (ofV v)) else none
  | .func f => some (.con (.fn (.func f) []))
  | .global _ => none

def lowerXs : List Operand → Option (List LX)
  | [] => some []
  | x :: r => match lowerX x, lowerXs r with
    | some a, some l => some (a :: l)
    | _, _ => none

def lowerO : Option Operand → Option (Option LX)
  | none => some none
  | some x => (lowerX x).map some

def isAggB (P : Program) (t : TypeId) : Bool :=
  match P.underlying t with
  | some (.struct _) | some (.array _ _) => true
  | _ => false

def isU8 (P : Program) (t : TypeId) : Bool :=
  match P.underlying t with
  | some (.int .u8) => true
  | _ => false

def zeroOf (P : Program) (t : TypeId) : Option (List AV) :=
  match P.info? t with
  | some i => match i.zero with
    | some z => if okV z && decide (z.cells.size = i.size) then some (z.cells.toList.map ofV1) else none
    | none => none
  | none => none

def lowerParts (P : Program) (fields : Array Field) : List (Nat × Operand) → Option (List (Nat × Nat × LX))
  | [] => some []
  | (i, x) :: r => match fields[i]?, lowerX x, lowerParts P fields r with
    | some f, some a, some l => match P.info? f.type with
      | some ti => some ((f.offset, ti.size, a) :: l)
      | none => none
    | _, _, _ => none

/-- The zero value is one cell, and no array or struct. -/
def zeroOne (P : Program) (t : TypeId) : Bool := match P.info? t with
  | some i => match i.zero with
    | some z => one z
    | none => false
  | none => false
def isI64 (P : Program) (t : TypeId) : Bool := match P.underlying t with
  | some (.int .i64) => true
  | _ => false
def lowerArr (n : Nat) : List (Nat × Operand) → Option (List (Nat × Nat × LX))
  | [] => some []
  | (i, x) :: r => match lowerX x, lowerArr n r with
    | some a, some l => some ((i * n, n, a) :: l)
    | _, _ => none
/-- 0 an integer, 1 a bool, 2 a string, 3 an interface value. -/
def kindB (P : Program) (t : TypeId) : Option Nat := match P.underlying t with
  | some (.int _) => some 0
  | some .bool => some 1
  | some .string => some 2
  | some (.interface _) => some 3
  | _ => none
def ksF (P : Program) : List Field → Option (List (Nat × Nat))
  | [] => some []
  | f :: r => if f.name = "_" then none else match kindB P f.type, ksF P r with
    | some k, some l => some ((f.offset, k) :: l)
    | _, _ => none
def ksOf (P : Program) (t : TypeId) : Option (List (Nat × Nat)) := match P.underlying t with
  | some (.struct fs) => if P.stoodInHeld t then none else ksF P fs.toList
  | some (.array n e) => match kindB P e, P.info? e with
    | some k, some i => if i.size = 1 then some ((List.range n).map fun j => (j, k)) else none
    | _, _ => none
  | _ => none
def flatK (ks : List (Nat × Nat)) : Bool := ks.all fun p => p.2 != 3
/-- What an interface value may hold: scalars and small arrays of scalars. -/
def tabE (P : Program) (t : TypeId) : Option (Nat × List (Nat × Nat)) := match P.info? t with
  | some i => if i.comparable then (match P.underlying t with
    | some (.array n _) => if n < 10 then (match ksOf P t with
      | some ks => if flatK ks then some (4, ks) else none
      | none => none) else none
    | _ => match kindB P t with
      | some k => if k = 3 then none else some (k, [])
      | none => none) else none
  | none => none
def tabOf (P : Program) : EqTab := (List.range P.types.size).filterMap fun t => (tabE P t).map (t, ·)
def lowerEq (P : Program) (neg : Bool) (t : TypeId) (a b : LX) : Option LOp := if P.eqGuardType P.depth t then none else (ksOf P t).map fun ks => .deq neg (if flatK ks then [] else tabOf P) ks a b

def lowerRow (i : Nat) : List (Nat × Operand) → Option (List LX)
  | [] => some []
  | (j, x) :: r => if j = i then match lowerX x, lowerRow (i + 1) r with
    | some a, some l => some (a :: l)
    | _, _ => none
    else none

def isNoEsc (P : Program) (f : FuncId) : Bool :=
  match P.funcs[f]? with
  | some fn => fn.body.isNone && fn.name == "internal/abi.NoEscape" && fn.origin == ""
  | none => false

def lowerCall (P : Program) (c : Call) : Option LOp :=
  match c.callee with
  | .value (.func f) => match lowerXs c.args.toList with
    | some l => if hasBody P f then some (.call f l) else if isNoEsc P f then (match l with
      | [x] => some (.noesc x)
      | _ => none) else none
    | none => none
  | .value x => match lowerX x, lowerXs c.args.toList with
    | some a, some l => some (.callv a l)
    | _, _ => none
  | .invoke _ _ => none
  | .builtin .len => match c.args.toList, c.argTypes.toList with
    | [x], [t] => match lowerX x, P.underlying t with
      | some a, some .string => some (.lenS a)
      | some a, some (.slice _) => some (.len a)
      | _, _ => none
    | _, _ => none
  | .builtin .min => match c.args.toList with
    | [x, y] => match lowerX x, lowerX y with
      | some a, some b => some (.minI a b)
      | _, _ => none
    | _ => none
  | .builtin .append => match c.args.toList, c.argTypes.toList with
    | [x, y], [t, u] => match lowerX x, lowerX y, P.underlying t, P.underlying u with
      | some a, some b, some (.slice e), some (.slice _) => match P.info? e with
        | some i => match i.zero with
          | some z => if z.cells.size = i.size ∧ 0 < i.bytes ∧ 0 < i.size ∧ okV z = true then some (.append false e i.size i.bytes a b) else none
          | none => none
        | none => none
      | some a, some b, some (.slice e), some .string => match P.info? e with
        | some i => match i.zero with
          | some z => if z.cells.size = i.size ∧ 0 < i.bytes ∧ i.size = 1 ∧ okV z = true then some (.append true e i.size i.bytes a b) else none
          | none => none
        | none => none
      | _, _, _, _ => none
    | _, _ => none
  | .builtin .unsafeSliceData => match c.args.toList with
    | [x] => (lowerX x).map .sdata
    | _ => none
  | .builtin .unsafeString => match c.args.toList, c.argTypes.toList with
    | [x, y], [t, u] => match lowerX x, lowerX y, P.underlying t with
      | some a, some b, some (.pointer e) => if P.cellsOf e = 1 then some (.sstr e a b) else none
      | _, _, _ => none
    | _, _ => none
  | .builtin .copy => match c.args.toList, c.argTypes.toList with
    | [x, y], [t, u] => match lowerX x, lowerX y, P.underlying t, P.underlying u with
      | some a, some b, some (.slice e), some .string => match P.info? e with
        | some i => if i.size = 1 then some (.copyS a b) else none
        | none => none
      | _, _, _, _ => none
    | _, _ => none
  | .builtin _ => none

/-- `ow`: a list that is built is a row of one's own. -/
def lowerOp (ow : Bool) (P : Program) : Op → Option LOp
  | .move x | .assign x => (lowerX x).map .mv
  | .pick c a b => match lowerX c, lowerX a, lowerX b with
    | some c, some a, some b => some (.pick c a b)
    | _, _, _ => none
  | .box t x => (lowerX x).map (.box t)
  | .alloc t => (zeroOf P t).map (.alloc t)
  | .load t x => match lowerX x, P.info? t with
    | some a, some i => if isAggB P t then some (.load true i.size a) else if (P.underlying t).isSome then some (.load false 1 a) else none
    | _, _ => none
  | .store t p x => match lowerX p, lowerX x, P.info? t with
    | some a, some b, some i => some (.store i.size a b)
    | _, _, _ => none
  | .fieldAddr s x f => match lowerX x, P.underlying s with
    | some a, some (.struct fs) => match fs[f]? with
      | some fd => match P.info? fd.type with
        | some i => if i.size ≠ 0 then some (.faddr fd.offset a) else none
        | none => none
      | none => none
    | _, _ => none
  | .field s x f => match lowerX x, P.underlying s with
    | some a, some (.struct fs) => match fs[f]? with
      | some fd => match P.info? fd.type with
        | some i => if isAggB P fd.type then some (.fld true fd.offset i.size a) else if (P.underlying fd.type).isSome then some (.fld false fd.offset 1 a) else none
        | none => none
      | none => none
    | _, _ => none
  | .nilCheck x => (lowerX x).map .nilchk
  | .binOp op t x y _ => match lowerX x, lowerX y with
    | some a, some b => match op, P.underlying t with
      | .eql, some .bool => some (.eqb false a b)
      | .neq, some .bool => some (.eqb true a b)
      | .eql, some (.pointer e) => if (P.info? e).any (fun i => i.size ≠ 0) then some (.peq false a b) else none
      | .neq, some (.pointer e) => if (P.info? e).any (fun i => i.size ≠ 0) then some (.peq true a b) else none
      | .eql, some (.interface _) => (match y with
        | .const .nilIface => some (.inil false a)
        | _ => none)
      | .neq, some (.interface _) => (match y with
        | .const .nilIface => some (.inil true a)
        | _ => none)
      | .eql, some (.struct _) => lowerEq P false t a b
      | .neq, some (.struct _) => lowerEq P true t a b
      | .eql, some (.array _ _) => lowerEq P false t a b
      | .neq, some (.array _ _) => lowerEq P true t a b
      | op, _ => some (.bin op a b)
    | _, _ => none
  | .unOp op _ x => (lowerX x).map (.un op)
  | .convert src dst x => match lowerX x, P.underlying src, P.underlying dst with
    | some a, some (.int _), some (.int k) => some (.cvt (.int k) a)
    | some a, some (.slice e), some .string => if isU8 P e then some (.cvt .b2s a) else none
    | some a, some .string, some (.slice e) => if isU8 P e then some (.cvt (.s2b e) a) else none
    | some a, some .string, some .string => some (.cvt .same a)
    | some a, some (.pointer t), some .unsafePointer => if (P.info? t).any (fun i => i.size ≠ 0) then some (.p2u a) else none
    | some a, some .unsafePointer, some (.pointer t) => if (P.info? t).isSome && liesAt P P.depth t (P.cellsOf t / P.cellsOf t) 0 t 1 then some (.u2p t (P.cellsOf t) a) else none
    | _, _, _ => none
  | .slice t x lo hi none => match lowerX x, lowerO lo, lowerO hi, P.underlying t with
    | some a, some l, some h, some .string => some (.slcS a l h)
    | some a, some l, some h, some (.slice e) => (P.info? e).map fun i => .slc i.size a l h
    | _, _, _, _ => none
  | .indexAddr t x i => match lowerX x, lowerX i, P.underlying t with
    | some a, some b, some (.slice e) => (P.info? e).map fun ti => .iaddr ti.size a b
    | _, _, _ => none
  | .index t x i => match lowerX x, lowerX i, P.underlying t with
    | some a, some b, some .string => some (.idx a b)
    | _, _, _ => none
  | .extract x i => (lowerX x).map (.extr i)
  | .build t ps => match P.underlying t, zeroOf P t with
    | some (.struct fs), some z => if fs.toList.all (fun f => (P.info? f.type).isSome) then (lowerParts P fs ps.toList).map (.build z) else none
    | some (.array _ e), some z => (P.info? e).bind fun i => (lowerArr i.size ps.toList).map (.build z)
    | _, _ => none
  | .buildSlice t len ps => match P.underlying t, lowerRow 0 ps.toList with
    | some (.slice e), some l => match P.info? e with
      | some i => if l.length = len ∧ len * i.size ≤ 16777216 ∧ (zeroOf P e).isSome ∧ 0 < len ∧ 0 < i.size then some (if ow then .brow e i.size l else .bslice e i.size l) else none
      | none => none
    | _, _ => none
  | .makeSlice t n c => match P.underlying t, lowerX n, lowerX c with
    | some (.slice e), some a, some b => match P.info? e, zeroOf P e with
      | some i, some z => if 0 < i.size ∧ 0 < i.bytes then some (.mkslice e i.size i.bytes z a b) else none
      | _, _ => none
    | _, _, _ => none
  | .makeInterface t x => match P.underlying t, lowerX x with
    | some (.interface _), _ => none
    | some _, some a => some (.iface t a)
    | _, _ => none
  | .makeFunc fn first cap => if first.size = 0 then (lowerXs cap.toList).map (.mkfn fn) else none
  | .panic x => (lowerX x).map .panic
  | .typeAssert x _ t true => match lowerX x, P.underlying t with
    | some _, some (.interface _) => none
    | some a, some _ => some (.tass t a)
    | _, _ => none
  | .makeMap _ none => some .mkmap
  | .insert t m k x | .mapUpdate t m k x => match lowerX m, lowerX k, lowerX x, P.underlying t with
    | some a, some b, some c, some (.map kt _) => if isI64 P kt then some (.mins a b c) else none
    | _, _, _, _ => none
  | .lookup t m k true => match lowerX m, lowerX k, P.underlying t with
    | some a, some b, some (.map kt e) => if isI64 P kt then (if zeroOne P e then match zeroOf P e with
        | some [z] => some (.mget z a b)
        | _ => none
        else none) else none
    | _, _, _ => none
  | .call c => lowerCall P c
  | _ => none

def lowerG (n : Nat) (ops : Array Oper) : Option (Nat × Bool) → Option (Option (Nat × Bool))
  | none => some none
  | some (j, want) => match ops[j]? with
    | some o => match o.dst with
      | some d => if d < n then some (some (d, want)) else none
      | none => none
    | none => none

def clear (g : Option (Nat × Bool)) (d : Option Nat) : Bool :=
  match g, d with
  | some (s, _), some t => s != t
  | _, _ => true

def addGrp (g : Option (Nat × Bool)) (d : Option Nat) (lo : LOp) : List LGrp → List LGrp
  | ⟨g', ops⟩ :: rest => if g' = g then ⟨g, (d, lo) :: ops⟩ :: rest else ⟨g, [(d, lo)]⟩ :: ⟨g', ops⟩ :: rest
  | [] => [⟨g, [(d, lo)]⟩]

def dstOk (n : Nat) : Option Nat → Bool
  | some d => decide (d < n)
  | none => true

/-- These variables' lists are rows of one's own. -/
def isOw (ow : List Nat) : Option Nat → Bool
  | some d => ow.contains d
  | none => false
def lowerSteps (ow : List Nat) (P : Program) (n : Nat) (ops : Array Oper) : List Oper → Option (List LGrp)
  | [] => some []
  | o :: r => match lowerG n ops o.guard, lowerOp (isOw ow o.dst) P o.op, lowerSteps ow P n ops r with
    | some g, some lo, some l => if dstOk n o.dst && clear g o.dst then some (addGrp g o.dst lo l) else none
    | _, _, _ => none

def usesX : LX → List Nat
  | .tmp t => [t]
  | .con _ => []
def usesO : Option LX → List Nat
  | none => []
  | some x => usesX x
def usesL (l : List LX) : List Nat := l.flatMap usesX
def uses : LOp → List Nat
  | .mv x | .box _ x | .load _ _ x | .faddr _ x | .nilchk x | .un _ x | .cvt _ x | .fld _ _ _ x | .extr _ x | .len x | .lenS x | .iface _ x | .panic x => usesX x
  | .pick c a b => usesX c ++ (usesX a ++ usesX b)
  | .p2u x | .u2p _ _ x | .noesc x | .sdata x | .inil _ x | .tass _ x => usesX x
  | .peq _ p x | .sstr _ p x | .copyS p x | .deq _ _ _ p x => usesX p ++ usesX x
  | .alloc _ _ | .raw _ | .mkmap => []
  | .mins m k x => usesX m ++ (usesX k ++ usesX x)
  | .mget _ m k => usesX m ++ usesX k
  | .store _ p x | .bin _ p x | .eqb _ p x | .idx p x | .iaddr _ p x | .minI p x | .append _ _ _ _ p x | .mkslice _ _ _ _ p x => usesX p ++ usesX x
  | .slcS x lo hi | .slc _ x lo hi => usesX x ++ (usesO lo ++ usesO hi)
  | .build _ ps => ps.flatMap fun p => usesX p.2.2
  | .bslice _ _ xs | .brow _ _ xs | .call _ xs | .mkfn _ xs => usesL xs
  | .callv x xs => usesX x ++ usesL xs

def isEff : LOp → Bool
  | .mkmap | .brow .. | .box .. | .alloc .. | .store .. | .mkslice .. | .append .. | .sstr .. | .copyS .. => true
  | .cvt (.s2b _) _ => true
  | _ => false

/-- What stands ahead of an operation in every order. -/
def predsOf (o : Oper) : List Nat := o.after.toList.filterMap fun e => if Region.binds .any e then some e.on else none

def effBefore (ops : List LOp) (i : Nat) : Nat := ((ops.take i).filter isEff).length
/-- The place of the mover with this number. -/
def effAt (ops : List LOp) (r : Nat) : Option Nat := (List.range ops.length).find? fun i => (match ops[i]? with | some o => isEff o | none => false) && effBefore ops i == r

def backOf (ops : List LOp) (i : Nat) (preds : List Nat) : Nat :=
  let k := effBefore ops i
  ((List.range k).reverse.takeWhile fun r => match effAt ops r with | some e => !preds.contains e | none => false).length
def fwdOf (all : List Oper) (ops : List LOp) (i : Nat) : Nat :=
  let k := effBefore ops i
  let m := effBefore ops ops.length
  ((List.range (m - k)).takeWhile fun r => match effAt ops (k + r) with
    | some e => (match all[e]? with | some o => !(predsOf o).contains i | none => false)
    | none => false).length

def lowerEach (ow : List Nat) (P : Program) (n : Nat) (ops : Array Oper) : List Oper → Option (List (Option Nat × Option (Nat × Bool) × LOp))
  | [] => some []
  | o :: r => match lowerG n ops o.guard, lowerOp (isOw ow o.dst) P o.op, lowerEach ow P n ops r with
    | some g, some lo, some l => if dstOk n o.dst then some ((o.dst, g, lo) :: l) else none
    | _, _, _ => none

def rank (l : List DOp) (i : Nat) : Nat := ((l.take i).filter (·.eff)).length

/-- That a region may be walked in the order of its text. -/
def drawOk (ops : List Oper) (l : List DOp) : Bool :=
  (List.range l.length).all fun i => match l[i]?, ops[i]? with
    | some d, some o =>
      (!isIns d.op || (d.dst.isNone && d.guard.isNone && !d.eff && (uses d.op).all (fun t => (List.range l.length).all fun j => match l[j]? with | some d' => decide (d'.dst ≠ some t) || (predsOf o).contains j | none => true))) &&
      (predsOf o).all (fun j => decide (j < i)) &&
      (match d.dst with | some t => (List.range l.length).all fun j => (match l[j]? with | some d' => decide (d'.dst ≠ some t) || decide (j = i) | none => true) | none => true) &&
      ((match d.guard with | some (g, _) => g :: uses d.op | none => uses d.op).all fun t => (List.range l.length).all fun j => match l[j]? with | some d' => decide (d'.dst ≠ some t) || (predsOf o).contains j || (match ops[j]? with | some oj => (predsOf oj).contains i | none => false) | none => true) &&
      (List.range l.length).all fun e => match l[e]?, ops[e]? with
        | some de, some oe => !de.eff || (if d.eff then !decide (rank l e + 1 = rank l i) || (predsOf o).contains e
            else (!decide (rank l e + d.back + 1 = rank l i) || (predsOf o).contains e) && (!decide (rank l i + d.fwd = rank l e) || (predsOf oe).contains i))
        | _, _ => true
    | _, _ => false

def mkD (all : List Oper) (los : List LOp) : Nat → List Oper → List (Option Nat × Option (Nat × Bool) × LOp) → List DOp
  | i, o :: os, (d, g, lo) :: r => ⟨d, g, lo, isEff lo, if isEff lo then 0 else backOf los i (predsOf o), if isEff lo then 0 else fwdOf all los i⟩ :: mkD all los (i + 1) os r
  | _, _, _ => []

def noGet (l : List DOp) : Bool := l.all (fun d => !isIns d.op) || l.all (fun d => !isGet d.op)
def lowerD (ow : List Nat) (P : Program) (n : Nat) (ops : Array Oper) : Option (List DOp) :=
  match lowerEach ow P n ops ops.toList with
  | some l => if noGet (mkD ops.toList (l.map (·.2.2)) 0 ops.toList l) && drawOk ops.toList (mkD ops.toList (l.map (·.2.2)) 0 ops.toList l) then some (mkD ops.toList (l.map (·.2.2)) 0 ops.toList l) else none
  | none => none

/-! Two movers that may stand in either order: both orders. -/
def addEdge (ops : Array Oper) (i j : Nat) : Array Oper := ops.modify j fun o => { o with after := o.after.push ⟨i, .data⟩ }
def remapO (f : Nat → Nat) (o : Oper) : Oper := { o with after := o.after.map fun e => { e with on := f e.on }, guard := o.guard.map fun g => (f g.1, g.2) }
def permOps (ops : Array Oper) (ord : List Nat) : Array Oper := (ord.map fun i => remapO (ord.idxOf ·) (ops.getD i default)).toArray
def permOk (n : Nat) (ord : List Nat) : Bool := ord.length == n && (List.range n).all (fun i => decide (ord.idxOf i < n)) && (List.range n).all fun p => match ord[p]? with | some i => decide (i < n) && ord.idxOf i == p | none => false
def kahn (ops : Array Oper) : Nat → List Nat → List Nat
  | 0, acc => acc.reverse
  | k + 1, acc => match (List.range ops.size).find? fun i => !acc.contains i && (match ops[i]? with | some o => (predsOf o).all acc.contains | none => false) with
    | some i => kahn ops k (i :: acc)
    | none => acc.reverse
def freePair (ops : Array Oper) : List Nat → Option (Nat × Nat)
  | i :: j :: r => match ops[j]? with
    | some o => if (predsOf o).contains i then freePair ops (j :: r) else some (i, j)
    | none => none
  | _ => none
def moversOf (ow : List Nat) (P : Program) (ops : Array Oper) : List Nat := (List.range ops.size).filter fun i => match ops[i]? with
  | some o => (match lowerOp (isOw ow o.dst) P o.op with | some lo => isEff lo | none => false)
  | none => false
def lowerFork (ow : List Nat) (P : Program) (n : Nat) (ops : Array Oper) : Nat → Option (List (List DOp))
  | 0 => (lowerD ow P n ops).map ([·])
  | k + 1 => match lowerD ow P n ops with
    | some l => some [l]
    | none => match freePair ops (moversOf ow P ops) with
      | some (i, j) =>
        if i < ops.size ∧ j < ops.size ∧ i ≠ j ∧ permOk ops.size (kahn (addEdge ops j i) ops.size []) = true then
          match lowerFork ow P n (addEdge ops i j) k, lowerFork ow P n (permOps (addEdge ops j i) (kahn (addEdge ops j i) ops.size [])) k with
          | some a, some b => some (a ++ b)
          | _, _ => none
        else none
      | none => none

def lowerC (ow : List Nat) (P : Program) (n : Nat) : Code → Option LCode
  | .skip => some .skip
  | .region _ ops false => match lowerSteps ow P n ops ops.toList with
    | some l => some (.region l)
    | none => some .bad
  | .region _ ops true => if P.follows .mixedOrders then (match lowerD ow P n ops with
    | some l => some (if l.all (fun d => !isIns d.op) then .quiet l else .draw l)
    | none => (match lowerFork ow P n ops 3 with
      | some ls => some (.fork ls)
      | none => some .bad)) else some .bad
  | .seq a b => match lowerC ow P n a, lowerC ow P n b with
    | some x, some y => some (.seq x y)
    | _, _ => none
  | .cond c a b => match lowerX c, lowerC ow P n a, lowerC ow P n b with
    | some l, some x, some y => some (.cond l x y)
    | _, _, _ => none
  | .block id a => (lowerC ow P n a).map (.block id)
  | .loop a => (lowerC ow P n a).map .loop
  | .exit id => some (.exit id)
  | .ret => some .ret
  | _ => some .bad

def lowerRes (P : Program) : List ResultVar → Option (List LRes)
  | [] => some []
  | .tmp t :: r => (lowerRes P r).map (.tmp t :: ·)
  | .cell a t :: r => match lowerRes P r, P.info? t with
    | some l, some i => if isAggB P t then some (.cell a true i.size :: l) else if (P.underlying t).isSome then some (.cell a false 1 :: l) else none
    | _, _ => none

def lowerFO (ow : List Nat) (P : Program) (f : FuncId) : Option LFunc :=
  match P.funcs[f]? with
  | some fn => match fn.body with
    | some c => match lowerC ow P fn.ntmps c, lowerRes P fn.results.toList with
      | some b, some r => some { ntmps := fn.ntmps, results := r, body := b }
      | _, _ => none
    | none => none
  | none => none

abbrev lowerF (P : Program) (f : FuncId) : Option LFunc := lowerFO [] P f

end Go.Proofs.YtajbeippbabhhaaGreatDoor.Eng

namespace Go.Proofs.YtajbeippbabhhaaGreatDoor.Eng
open Go

/-! ## Frames -/
def FrRep (μ : Mu) (M : Nat → Prop) (w : World) (fr : Fr) (a : Act) : Prop := ∀ t, Rep μ M w (fr t) (a.tmps.getD t undef)

theorem FrRep.keep {μ M w μ' M' w'} (k : Keeps μ M w μ' M' w') {fr : Fr} {a : Act} (h : FrRep μ M w fr a) : FrRep μ' M' w' fr a := fun t => (h t).keep k

theorem FrRep.put {μ M w} {fr : Fr} {a : Act} (h : FrRep μ M w fr a) {d : Option Nat} {n : Nat} (hd : dstOk n d = true) (hn : a.tmps.size = n) {v : AV} {x : Value} (hv : Rep μ M w v x) : FrRep μ M w (putF fr d v) (a.put d x) := by
  cases d with
  | none => exact h
  | some d =>
    intro t
    have hlt : d < a.tmps.size := by rw [hn]; simpa [dstOk] using hd
    simp only [putF, Act.put, upd]
    split
    · rename_i e; subst e
      simpa [Array.getD_eq_getD_getElem?, Array.getElem?_setIfInBounds, hlt] using hv
    · rename_i e
      have : (a.tmps.setIfInBounds d x).getD t undef = a.tmps.getD t undef := by
        simp [Array.getD_eq_getD_getElem?, Ne.symm e]
      rw [this]; exact h t

theorem FrRep.upd_bool {μ M w} {fr : Fr} {a : Act} (h : FrRep μ M w fr a) {g : Nat} {b : Bool} (hb : fr g = .bool b) : FrRep μ M w (upd fr g (.bool b)) a := by
  have : upd fr g (.bool b) = fr := by rw [← hb]; exact upd_self fr g
  rw [this]; exact h

theorem rep_ofV1 (μ M w) (v : Value) (h : okV1 v = true) : Rep μ M w (ofV1 v) v ∧ one v = true := by
  cases v <;> simp_all [okV1, ofV1, Rep, one, strV, strMax]
  omega

theorem repVals_ofV1 (μ M w) : ∀ (vs : List Value), vs.all okV1 = true → RepVals μ M w (vs.map ofV1) vs ∧ ∀ x ∈ vs, one x = true
  | [], _ => by simp [RepVals]
  | v :: vs, h => by
    simp only [List.all_cons, Bool.and_eq_true] at h
    obtain ⟨h1, h2⟩ := rep_ofV1 μ M w v h.1
    obtain ⟨h3, h4⟩ := repVals_ofV1 μ M w vs h.2
    simp only [List.map_cons, RepVals]
    exact ⟨⟨v, vs, rfl, h1, h3⟩, by simpa using ⟨h2, h4⟩⟩

theorem rep_ofV (μ M w) (v : Value) (h : okV v = true) : Rep μ M w (ofV v) v := by
  cases v with
  | agg cs =>
    simp only [okV] at h
    simp only [ofV, Rep]
    obtain ⟨h3, h4⟩ := repVals_ofV1 μ M w cs.toList h
    exact ⟨cs, rfl, h3, h4⟩
  | _ =>
    simp only [okV] at h
    simp only [ofV]
    exact (rep_ofV1 μ M w _ h).1

theorem lowerX_sound {μ M w} {fr : Fr} {a : Act} (h : FrRep μ M w fr a) {x : Operand} {l : LX} (hl : lowerX x = some l) : Rep μ M w (ev fr l) (a.eval x) := by
  cases x with
  | tmp t => simp only [lowerX, Option.some.injEq] at hl; subst hl; exact h t
  | const v =>
    simp only [lowerX] at hl
    split at hl
    · simp only [Option.some.injEq] at hl; subst hl; exact rep_ofV μ M w v ‹_›
    · cases hl
  | global g => simp [lowerX] at hl
  | func f =>
    simp only [lowerX, Option.some.injEq] at hl; subst hl
    simp only [ev, Rep, Act.eval]
    exact ⟨#[], rfl, by simp [RepVals]⟩

theorem lowerXs_sound {μ M w} {fr : Fr} {a : Act} (h : FrRep μ M w fr a) : ∀ {xs : List Operand} {l : List LX}, lowerXs xs = some l → RepVals μ M w (l.map (ev fr)) (xs.map a.eval)
  | [], l, hl => by simp only [lowerXs, Option.some.injEq] at hl; subst hl; simp [RepVals]
  | x :: xs, l, hl => by
    simp only [lowerXs] at hl
    split at hl
    · rename_i b l' h1 h2
      simp only [Option.some.injEq] at hl; subst hl
      simp only [List.map_cons, RepVals]
      exact ⟨_, _, rfl, lowerX_sound h h1, lowerXs_sound h h2⟩
    · cases hl

theorem RepVals.append {μ M w} : ∀ {a b : List AV} {x y : List Value}, RepVals μ M w a x → RepVals μ M w b y → RepVals μ M w (a ++ b) (x ++ y)
  | [], b, x, y, h, k => by simp only [RepVals] at h; subst h; simpa using k
  | c :: a, b, x, y, h, k => by
    simp only [RepVals, List.cons_append] at h ⊢
    obtain ⟨v, vs, rfl, h1, h2⟩ := h
    exact ⟨v, vs ++ y, rfl, h1, RepVals.append h2 k⟩
theorem RepVals.length {μ M w} : ∀ {a : List AV} {x : List Value}, RepVals μ M w a x → x.length = a.length
  | [], x, h => by simp only [RepVals] at h; simp [h]
  | c :: a, x, h => by
    simp only [RepVals] at h
    obtain ⟨v, vs, rfl, _, h2⟩ := h
    simp [RepVals.length h2]
theorem RepVals.at {μ M w} : ∀ {a : List AV} {x : List Value}, RepVals μ M w a x → ∀ (i : Nat) (c : AV), a[i]? = some c → ∃ v, x[i]? = some v ∧ Rep μ M w c v
  | [], x, h, i, c, hc => by simp at hc
  | d :: a, x, h, i, c, hc => by
    simp only [RepVals] at h
    obtain ⟨v, vs, rfl, h1, h2⟩ := h
    cases i with
    | zero => simp only [List.getElem?_cons_zero, Option.some.injEq] at hc; subst hc; exact ⟨v, rfl, h1⟩
    | succ i => simpa using RepVals.at h2 i c (by simpa using hc)
theorem RepVals.take {μ M w} : ∀ {a : List AV} {x : List Value} (n : Nat), RepVals μ M w a x → RepVals μ M w (a.take n) (x.take n)
  | a, x, 0, h => by simp [RepVals]
  | [], x, n + 1, h => by simp only [RepVals] at h; subst h; simp [RepVals]
  | c :: a, x, n + 1, h => by
    simp only [RepVals] at h
    obtain ⟨v, vs, rfl, h1, h2⟩ := h
    simp only [List.take_succ_cons, RepVals]
    exact ⟨v, _, rfl, h1, RepVals.take n h2⟩
theorem RepVals.drop {μ M w} : ∀ {a : List AV} {x : List Value} (n : Nat), RepVals μ M w a x → RepVals μ M w (a.drop n) (x.drop n)
  | a, x, 0, h => by simpa using h
  | [], x, n + 1, h => by simp only [RepVals] at h; subst h; simp [RepVals]
  | c :: a, x, n + 1, h => by
    simp only [RepVals] at h
    obtain ⟨v, vs, rfl, h1, h2⟩ := h
    simpa using RepVals.drop n h2

/-! ## Cells in a row of memory -/
theorem cells_of_block {w : World} {b : Nat} {arr : Array Value} {t : TypeId} {fz : Nat × Nat} (h : w.heap[b]? = some (.cells arr t fz)) (i : Nat) : w.cell? ⟨b, i, none⟩ = arr[i]? := by
  simp [World.cell?, h]

theorem repCells_of_block {μ M} {w : World} {b : Nat} {arr : Array Value} {t : TypeId} {fz : Nat × Nat} (h : w.heap[b]? = some (.cells arr t fz)) (hone : ∀ x ∈ arr.toList, one x = true) :
    ∀ (cs : List AV) (o : Nat) (vs : List Value), (∀ j, j < vs.length → arr.toList[o + j]? = vs[j]?) → RepVals μ M w cs vs → RepCells μ M w cs b o
  | [], o, vs, _, _ => by simp only [RepCells]
  | c :: cs, o, vs, hs, hr => by
    simp only [RepVals] at hr
    obtain ⟨v, vs', rfl, h1, h2⟩ := hr
    simp only [RepCells]
    have h0 := hs 0 (by simp)
    simp only [Nat.add_zero, List.getElem?_cons_zero] at h0
    refine ⟨⟨v, ?_, hone v (List.mem_of_getElem? h0), h1⟩, repCells_of_block h hone cs (o + 1) vs' (fun j hj => ?_) h2⟩
    · rw [cells_of_block h]; simpa using h0
    · have := hs (j + 1) (by simpa using hj)
      simpa [Nat.add_assoc, Nat.add_comm 1 j] using this

theorem load_of_cells {μ M} {w : World} {P : Program} : ∀ (cs : List AV) (b o : Nat), RepCells μ M w cs b o → ∃ vs : List Value, RepVals μ M w cs vs ∧ (∀ x ∈ vs, one x = true) ∧ vs.length = cs.length ∧ ∀ j v, vs[j]? = some v → w.cell? ⟨b, o + j, none⟩ = some v
  | [], b, o, _ => ⟨[], by simp [RepVals], by simp, rfl, by simp⟩
  | c :: cs, b, o, h => by
    simp only [RepCells] at h
    obtain ⟨⟨v, h1, h2, h3⟩, h4⟩ := h
    obtain ⟨vs, a1, a2, a3, a4⟩ := load_of_cells (P := P) cs b (o + 1) h4
    refine ⟨v :: vs, ?_, ?_, by simp [a3], ?_⟩
    · simp only [RepVals]; exact ⟨v, vs, rfl, h3, a1⟩
    · simpa using ⟨h2, a2⟩
    · intro j u hj
      cases j with
      | zero => simp at hj; subst hj; simpa using h1
      | succ j =>
        have := a4 j u (by simpa using hj)
        simpa [Nat.add_assoc, Nat.add_comm 1 j] using this

theorem RepCells.drop {μ M w} : ∀ (cs : List AV) (b o r : Nat), RepCells μ M w cs b o → RepCells μ M w (cs.drop r) b (o + r)
  | cs, b, o, 0, h => by simpa using h
  | [], b, o, r + 1, h => by simp [RepCells]
  | c :: cs, b, o, r + 1, h => by
    simp only [RepCells] at h
    have := RepCells.drop cs b (o + 1) r h.2
    simpa [Nat.add_assoc, Nat.add_comm 1 r] using this
theorem RepCells.take {μ M w} : ∀ (cs : List AV) (b o n : Nat), RepCells μ M w cs b o → RepCells μ M w (cs.take n) b o
  | cs, b, o, 0, h => by simp [RepCells]
  | [], b, o, n + 1, h => by simp [RepCells]
  | c :: cs, b, o, n + 1, h => by
    simp only [RepCells, List.take_succ_cons] at h ⊢
    exact ⟨h.1, RepCells.take cs b (o + 1) n h.2⟩
theorem RepRow.at {μ M w} (s : Nat) : ∀ (es : List (List AV)) (b o i : Nat) (cs : List AV), RepRow μ M w s es b o → es[i]? = some cs → RepCells μ M w cs b (o + i * s)
  | [], b, o, i, cs, h, hc => by simp at hc
  | e :: es, b, o, 0, cs, h, hc => by
    simp only [RepRow] at h
    simp only [List.getElem?_cons_zero, Option.some.injEq] at hc; subst hc
    simpa using h.1
  | e :: es, b, o, i + 1, cs, h, hc => by
    simp only [RepRow] at h
    have := RepRow.at s es b (o + s) i cs h.2 (by simpa using hc)
    have e : o + s + i * s = o + (i + 1) * s := by rw [Nat.succ_mul]; omega
    rwa [e] at this
theorem RepRow.drop {μ M w} (s : Nat) : ∀ (es : List (List AV)) (b o r : Nat), RepRow μ M w s es b o → RepRow μ M w s (es.drop r) b (o + r * s)
  | es, b, o, 0, h => by simpa using h
  | [], b, o, r + 1, h => by simp [RepRow]
  | c :: es, b, o, r + 1, h => by
    simp only [RepRow] at h
    have := RepRow.drop s es b (o + s) r h.2
    have e : o + s + r * s = o + (r + 1) * s := by rw [Nat.succ_mul]; omega
    simpa [e] using this
theorem RepRow.take {μ M w} (s : Nat) : ∀ (es : List (List AV)) (b o n : Nat), RepRow μ M w s es b o → RepRow μ M w s (es.take n) b o
  | es, b, o, 0, h => by simp [RepRow]
  | [], b, o, n + 1, h => by simp [RepRow]
  | c :: es, b, o, n + 1, h => by
    simp only [RepRow, List.take_succ_cons] at h ⊢
    exact ⟨h.1, RepRow.take s es b (o + s) n h.2⟩

end Go.Proofs.YtajbeippbabhhaaGreatDoor.Eng

namespace Go.Proofs.YtajbeippbabhhaaGreatDoor.Eng
open Go

def OutK (P : Program) (K : AV → Store → Prop) (E : AV → Store → Prop) (S : Store) : Out → Prop
  | .val v => K v S
  | .st v S' => K v S'
  | .asks p g v S' => p ∧ (g → K v S')
  | .call f args => ACalls P f args S fun r S' => match r with
    | .ret v => K v S'
    | .pan v => E v S'
  | .pan v => E v S

def OpOk (P : Program) (o : Oper) (a : Act) (μ : Mu) (S : Store) (w : World) (K : AV → Store → Prop) (E : AV → Store → Prop) : Prop :=
  o.wp P a w (fun a' w' => ∃ μ' S' v x, K v S' ∧ a' = a.put o.dst x ∧ Repr μ' S' w' ∧ Keeps μ (Mut μ S) w μ' (Mut μ' S') w' ∧ Rep μ' (Mut μ' S') w' v x)
    (fun e a' w' => ∃ μ' S' v x, E v S' ∧ e = .panic [{ v := x, recovered := false }] ∧ a' = a ∧ Repr μ' S' w' ∧ Keeps μ (Mut μ S) w μ' (Mut μ' S') w' ∧ Rep μ' (Mut μ' S') w' v x)

section
variable {P : Program} {o : Oper} {a : Act} {μ : Mu} {S : Store} {w : World} {K : AV → Store → Prop} {E : AV → Store → Prop}

theorem st_ok {w' : World} {x : Value} (h : (execOp a.eval o).run P w = .ok (.value x) w') {μ' : Mu} {S' : Store} {v : AV} (hk : K v S') (hr : Repr μ' S' w')
    (hK : Keeps μ (Mut μ S) w μ' (Mut μ' S') w') (hv : Rep μ' (Mut μ' S') w' v x) : OpOk P o a μ S w K E := by
  unfold OpOk Oper.wp
  rw [h]
  exact ⟨μ', S', v, x, hk, rfl, hr, hK, hv⟩
theorem st_ok_skip {w' : World} (h : (execOp a.eval o).run P w = .ok .skip w') {μ' : Mu} {S' : Store} {v : AV} (hk : K v S') (hr : Repr μ' S' w')
    (hK : Keeps μ (Mut μ S) w μ' (Mut μ' S') w') (hv : Rep μ' (Mut μ' S') w' v undef) : OpOk P o a μ S w K E := by
  unfold OpOk Oper.wp
  rw [h]
  exact ⟨μ', S', v, undef, hk, rfl, hr, hK, hv⟩
theorem val_ok {x : Value} (h : (execOp a.eval o).run P w = .ok (.value x) w) {v : AV} (hk : K v S) (hr : Repr μ S w) (hv : Rep μ (Mut μ S) w v x) : OpOk P o a μ S w K E :=
  st_ok h hk hr (Keeps.refl _ _ _) hv

theorem run_und {t : TypeId} {d : TypeDesc} (h : P.underlying t = some d) (w : World) : (underlying t).run P w = .ok d w := run_underlying h w
theorem run_info {t : TypeId} {i : TypeInfo} (h : P.info? t = some i) (w : World) : (typeInfo t).run P w = .ok i w := by
  simp [typeInfo, program, Sem.run, h]
theorem run_size {t : TypeId} {i : TypeInfo} (h : P.info? t = some i) (w : World) : (sizeOf t).run P w = .ok i.size w := by
  simp [sizeOf, run_info h]
theorem run_isAgg {t : TypeId} {d : TypeDesc} (h : P.underlying t = some d) (w : World) : (isAgg t).run P w = .ok (isAggB P t) w := by
  simp only [isAgg, Sem.run_bind, run_und h, Result.andThen_ok, isAggB, h]
  cases d <;> simp
theorem und_of_info {t : TypeId} {d : TypeDesc} (h : P.underlying t = some d) : ∃ i, P.info? t = some i := by
  unfold Program.underlying at h
  cases hi : P.info? t with
  | none => simp [hi] at h
  | some i => exact ⟨i, rfl⟩

theorem run_loadCells_of (b o : Nat) (vs : List Value) (h : ∀ j v, vs[j]? = some v → w.cell? ⟨b, o + j, none⟩ = some v) : (loadCells ⟨b, o, none⟩ vs.length).run P w = .ok vs.toArray w := by
  have := run_loadCells_list (P := P) (w := w) ⟨b, o, none⟩ vs (fun j v hj => by
    have := h j v hj
    unfold Addr.add
    split
    · rename_i e; subst e; simpa using this
    · exact this)
  exact this

/-- A variable is loaded: `cs` are the cells that lie there. -/
theorem run_loadVar_of {μ M} (t : TypeId) {i : TypeInfo} (hi : P.info? t = some i) {d : TypeDesc} (hd : P.underlying t = some d) (b o : Nat) (cs : List AV) (hc : RepCells μ M w cs b o) (ag : Bool) (n : Nat)
    (hag : isAggB P t = ag) (hn : if ag then n = i.size else n = 1) (hlen : n ≤ cs.length) : ∃ x, (loadVar t ⟨b, o, none⟩).run P w = .ok x w ∧ Rep μ M w (mk ag (cs.take n)) x := by
  obtain ⟨vs, h1, h2, h3, h4⟩ := load_of_cells (P := P) (cs.take n) b o (RepCells.take cs b o n hc)
  have hvs : vs.length = n := by rw [h3, List.length_take]; omega
  cases ag with
  | true =>
    simp only [if_true] at hn
    refine ⟨.agg vs.toArray, ?_, ?_⟩
    · have hl := run_loadCells_of (P := P) b o vs h4
      simp only [loadVar, Sem.run_bind, run_isAgg hd, Result.andThen_ok, hag, if_true, run_size hi, Sem.run_pure]
      rw [← hn, ← hvs, hl]
      rfl
    · simp only [mk, if_true, Rep]
      exact ⟨vs.toArray, rfl, by simpa using h1, by simpa using h2⟩
  | false =>
    simp only [Bool.false_eq_true, if_false] at hn
    subst hn
    match vs, hvs with
    | [v], _ =>
      have h5 := h4 0 v rfl
      refine ⟨v, ?_, ?_⟩
      · simp only [loadVar, Sem.run_bind, run_isAgg hd, Result.andThen_ok, hag, Bool.false_eq_true, if_false, run_load]
        simp only [Nat.add_zero] at h5
        simp [h5]
      · simp only [mk, Bool.false_eq_true, if_false]
        cases hcs : cs.take 1 with
        | nil => rw [hcs] at h1; simp [RepVals] at h1
        | cons c rest =>
          rw [hcs] at h1
          simp only [RepVals] at h1
          obtain ⟨v', vs', e, h1, _⟩ := h1
          simp only [List.cons.injEq] at e
          rw [e.1]; exact h1

/-! ## Where a pointer leads -/
theorem repr_box (hr : Repr μ S w) {l : Nat} {t : TypeId} {cs : List AV} (hl : S.get l = some (.box t cs)) {c : Loc} (hc : μ l = some c) : ∃ arr, w.heap[c.block]? = some (.cells arr t (0, 0)) ∧ RepVals μ (Mut μ S) w cs arr.toList ∧ ∀ x ∈ arr.toList, one x = true := by
  obtain ⟨c', h1, h2⟩ := hr.objs l _ hl
  rw [hc] at h1; cases h1
  exact h2
theorem repr_row (hr : Repr μ S w) {l : Nat} {t : TypeId} {s frz : Nat} {es : List (List AV)} (hl : S.get l = some (.row t s frz es)) {c : Loc} (hc : μ l = some c) : ObjRep μ (Mut μ S) w c (.row t s frz es) := by
  obtain ⟨c', h1, h2⟩ := hr.objs l _ hl
  rw [hc] at h1; cases h1
  exact h2

theorem flatten_at : ∀ (es : List (List AV)) (s i : Nat) (cs : List AV), (∀ e ∈ es, e.length = s) → es[i]? = some cs → (es.flatten.drop (i * s)).take s = cs
  | [], s, i, cs, _, h => by simp at h
  | e :: es, s, 0, cs, hw, h => by
    simp only [List.getElem?_cons_zero, Option.some.injEq] at h; subst h
    have := hw e (by simp)
    simp [List.take_append, this, List.take_of_length_le]
  | e :: es, s, i + 1, cs, hw, h => by
    have he := hw e (by simp)
    have := flatten_at es s i cs (fun x hx => hw x (by simp [hx])) (by simpa using h)
    have e1 : (i + 1) * s = i * s + s := Nat.succ_mul _ _
    rw [List.flatten_cons, List.drop_append, List.drop_of_length_le (by rw [he]; omega), he, e1, Nat.add_sub_cancel, List.nil_append]
    exact this
theorem flatten_len : ∀ (es : List (List AV)) (s : Nat), (∀ e ∈ es, e.length = s) → es.flatten.length = es.length * s
  | [], s, _ => by simp
  | e :: es, s, h => by
    have := flatten_len es s (fun x hx => h x (by simp [hx]))
    have he := h e (by simp)
    simp only [List.flatten_cons, List.length_append, List.length_cons, this, he, Nat.succ_mul]; omega

/-- A pointer leads to the cells that `deref` tells. -/
theorem deref_sound (hr : Repr μ S w) {p : AV} {v : Value} (hp : Rep μ (Mut μ S) w p v) {cs : List AV} (hd : deref S p = some cs) : ∃ b o, v = .pointer (some ⟨b, o, none⟩) ∧ RepCells μ (Mut μ S) w cs b o := by
  cases p with
  | ptr l off =>
    simp only [Rep] at hp
    obtain ⟨c, hc, rfl⟩ := hp
    simp only [deref] at hd
    split at hd
    · rename_i t cs' hl
      simp only [Option.some.injEq] at hd; subst hd
      obtain ⟨arr, h1, h2, h3⟩ := repr_box hr hl hc
      have := repCells_of_block h1 h3 cs' 0 arr.toList (by simp) h2
      exact ⟨c.block, off, rfl, by simpa using RepCells.drop cs' c.block 0 off this⟩
    · cases hd
  | rptr l i r =>
    simp only [Rep] at hp
    obtain ⟨c, hc, rfl⟩ := hp
    simp only [deref] at hd
    split at hd
    · rename_i t s frz es hl
      split at hd
      · rename_i cs' hcs
        simp only [Option.some.injEq] at hd; subst hd
        obtain ⟨hs, arr, fr, h1, h2, h3, h4, h5, h6, h7, h8, h9⟩ := repr_row hr hl hc
        refine ⟨c.block, i * c.size + r, rfl, ?_⟩
        have hlt : i < es.length := by
          rcases Nat.lt_or_ge i es.length with h | h
          · exact h
          · simp [List.getElem?_eq_none h] at hcs
        have e1 := flatten_at es c.size i cs' h5 hcs
        have hv := (h6.drop (i * c.size)).take c.size
        rw [e1] at hv
        have hfl := flatten_len es c.size h5
        have hle : (i + 1) * c.size ≤ es.length * c.size := Nat.mul_le_mul_right _ hlt
        rw [Nat.succ_mul] at hle
        have hsz : es.length * c.size ≤ arr.size := by rw [h2]; exact Nat.mul_le_mul_right _ h3
        have := repCells_of_block h1 h7 cs' (i * c.size) _ (fun j hj => ?_) hv
        · exact RepCells.drop cs' c.block (i * c.size) r this
        · simp only [List.length_take, List.length_drop] at hj
          rw [List.getElem?_take, if_pos (by omega), List.getElem?_drop, List.getElem?_take, if_pos (by omega)]
      · cases hd
    · cases hd
  | rop cs' r =>
    simp only [Rep] at hp
    obtain ⟨b, o, _, _, rfl, h⟩ := hp
    simp only [deref, Option.some.injEq] at hd; subst hd
    exact ⟨b, o + r, rfl, RepCells.drop cs' b o r h⟩
  | _ => simp [deref] at hd

/-! ## Stores -/
def asplice (arr : Array Value) (k : Nat) : List Value → Array Value
  | [] => arr
  | v :: vs => asplice (arr.setIfInBounds k v) (k + 1) vs
theorem size_asplice : ∀ (vs : List Value) (arr : Array Value) (k : Nat), (asplice arr k vs).size = arr.size
  | [], arr, k => rfl
  | v :: vs, arr, k => by simp [asplice, size_asplice vs]
theorem splice_length : ∀ (new cs : List AV) (off : Nat), (splice cs off new).length = cs.length
  | [], cs, off => rfl
  | c :: new, cs, off => by simp [splice, splice_length new]
theorem RepVals.set {M} : ∀ {cs : List AV} {xs : List Value} (k : Nat) {c : AV} {v : Value}, RepVals μ M w cs xs → Rep μ M w c v → RepVals μ M w (cs.set k c) (xs.set k v)
  | [], xs, k, c, v, h, _ => by simp only [RepVals] at h; subst h; simp [RepVals]
  | d :: cs, xs, 0, c, v, h, hc => by
    simp only [RepVals] at h
    obtain ⟨u, us, rfl, h1, h2⟩ := h
    simp only [List.set_cons_zero, RepVals]
    exact ⟨v, us, rfl, hc, h2⟩
  | d :: cs, xs, k + 1, c, v, h, hc => by
    simp only [RepVals] at h
    obtain ⟨u, us, rfl, h1, h2⟩ := h
    simp only [List.set_cons_succ, RepVals]
    exact ⟨u, _, rfl, h1, RepVals.set k h2 hc⟩
theorem RepVals.splice {M} : ∀ {new : List AV} {vs : List Value} {cs : List AV} {arr : Array Value} (k : Nat), RepVals μ M w cs arr.toList → RepVals μ M w new vs → RepVals μ M w (splice cs k new) (asplice arr k vs).toList
  | [], vs, cs, arr, k, h, hn => by simp only [RepVals] at hn; subst hn; exact h
  | c :: new, vs, cs, arr, k, h, hn => by
    simp only [RepVals] at hn
    obtain ⟨v, vs', rfl, h1, h2⟩ := hn
    simp only [Eng.splice, asplice]
    exact RepVals.splice (k + 1) (by simpa using RepVals.set k h h1) h2
theorem one_asplice : ∀ (vs : List Value) (arr : Array Value) (k : Nat), (∀ x ∈ arr.toList, one x = true) → (∀ x ∈ vs, one x = true) → ∀ x ∈ (asplice arr k vs).toList, one x = true
  | [], arr, k, h, _ => h
  | v :: vs, arr, k, h, hv => by
    simp only [asplice]
    refine one_asplice vs _ _ (fun x hx => ?_) (fun x hx => hv x (by simp [hx]))
    simp only [Array.toList_setIfInBounds] at hx
    rcases List.mem_or_eq_of_mem_set hx with h' | rfl
    · exact h x h'
    · exact hv _ (by simp)
theorem asplice_get : ∀ (vs : List Value) (arr : Array Value) (k j : Nat), (j < k ∨ k + vs.length ≤ j) → (asplice arr k vs)[j]? = arr[j]?
  | [], arr, k, j, _ => rfl
  | v :: vs, arr, k, j, h => by
    simp only [asplice]
    rw [asplice_get vs _ (k + 1) j (by simp only [List.length_cons] at h; omega)]
    rw [Array.getElem?_setIfInBounds_ne (by simp only [List.length_cons] at h; omega)]

theorem setCell_block {b o : Nat} {arr : Array Value} {t : TypeId} {fz : Nat × Nat} {v : Value} (h : w.heap[b]? = some (.cells arr t fz)) :
    w.setCell ⟨b, o, none⟩ v = { w with heap := w.heap.setIfInBounds b (.cells (arr.setIfInBounds o v) t fz) } := by
  have hb := heap_lt h
  have hb' : w.heap[b] = .cells arr t fz := by rw [Array.getElem?_eq_getElem hb] at h; simpa using h
  unfold World.setCell
  congr 1
  apply Array.ext_getElem?
  intro i
  rw [Array.getElem?_modify, Array.getElem?_setIfInBounds]
  by_cases e : b = i
  · subst e; simp [hb, hb']
  · simp [e]

theorem run_storeCells_blk (b : Nat) (t : TypeId) (fz : Nat × Nat) : ∀ (vs : List Value) (o i : Nat) (arr : Array Value) (w : World), w.heap[b]? = some (.cells arr t fz) → o + i + vs.length ≤ arr.size →
    (∀ j, o + i ≤ j → j < o + i + vs.length → ¬ (fz.1 ≤ j ∧ j < fz.2)) → (∀ v ∈ vs, one v = true) →
    (storeCells ⟨b, o, none⟩ vs i).run P w = .ok () { w with heap := w.heap.setIfInBounds b (.cells (asplice arr (o + i) vs) t fz) }
  | [], o, i, arr, w, h, _, _, _ => by
    have hb := heap_lt h
    have : w.heap.setIfInBounds b (.cells arr t fz) = w.heap := by
      apply Array.ext_getElem?
      intro j
      rw [Array.getElem?_setIfInBounds]
      by_cases e : b = j
      · subst e; rw [if_pos rfl, if_pos hb, h]
      · rw [if_neg e]
    simp only [storeCells, Sem.run_pure, asplice, this]
  | v :: vs, o, i, arr, w, h, hs, hf, ho => by
    have hadd : (⟨b, o, none⟩ : Addr).add i = ⟨b, o + i, none⟩ := by unfold Addr.add; split <;> simp_all
    have hlt : o + i < arr.size := by simp only [List.length_cons] at hs; omega
    have hc : w.cell? ⟨b, o + i, none⟩ = some arr[o + i] := by rw [cells_of_block h]; simp [hlt]
    have hfz : w.frozen? ⟨b, o + i, none⟩ = false := by
      have := hf (o + i) (Nat.le_refl _) (by simp only [List.length_cons]; omega)
      simp only [World.frozen?, h]
      simpa using this
    have hst : (store ⟨b, o + i, none⟩ v).run P w = .ok () (w.setCell ⟨b, o + i, none⟩ v) := by
      have h1 := ho v (by simp)
      unfold store
      cases v <;> simp [Sem.run, hc, hfz, one] at h1 ⊢
    simp only [storeCells, hadd, Sem.run_bind, hst, Result.andThen_ok, asplice]
    rw [setCell_block h]
    have hb := heap_lt h
    have h2 : ({ w with heap := w.heap.setIfInBounds b (.cells (arr.setIfInBounds (o + i) v) t fz) } : World).heap[b]? = some (.cells (arr.setIfInBounds (o + i) v) t fz) := by simp [hb]
    have := run_storeCells_blk b t fz vs o (i + 1) _ _ h2 (by simp only [List.length_cons] at hs; simp; omega) (fun j h3 h4 => hf j (by omega) (by simp only [List.length_cons]; omega)) (fun x hx => ho x (by simp [hx]))
    rw [this]
    simp [Nat.add_assoc]

theorem cellsOf_sound {M} {x : AV} {v : Value} (h : Rep μ M w x v) {cs : List AV} (hc : cellsOf x = some cs) : RepVals μ M w cs v.cells.toList ∧ ∀ u ∈ v.cells.toList, one u = true := by
  cases x with
  | agg xs =>
    simp only [cellsOf, Option.some.injEq] at hc; subst hc
    simp only [Rep] at h
    obtain ⟨vs, rfl, h1, h2⟩ := h
    exact ⟨h1, h2⟩
  | tup _ => simp [cellsOf] at hc
  | und => simp [cellsOf] at hc
  | junk => simp [cellsOf] at hc
  | _ =>
    simp only [cellsOf, Option.some.injEq] at hc; subst hc
    have h1 : one v = true := by
      simp only [Rep] at h
      first
        | (subst h; rfl)
        | (obtain ⟨rfl, h⟩ := h; first | rfl | exact h)
        | (obtain ⟨_, _, rfl⟩ := h; rfl)
        | (obtain ⟨_, rfl, _⟩ := h; rfl)
        | (obtain ⟨_, _, _, _, rfl, _⟩ := h; rfl)
        | (obtain ⟨_, _, rfl, _⟩ := h; rfl)
        | (obtain ⟨_, _, _, _, _, rfl, _⟩ := h; rfl)
    have h2 : v.cells = #[v] := by cases v <;> simp_all [Value.cells, one]
    rw [h2]
    refine ⟨?_, by simpa using h1⟩
    show RepVals μ M w _ [v]
    simp only [RepVals]
    exact ⟨v, [], rfl, h, rfl⟩

def lsplice (l : List Value) (k : Nat) : List Value → List Value
  | [] => l
  | v :: vs => lsplice (l.set k v) (k + 1) vs
theorem asplice_take (m : Nat) : ∀ (vs : List Value) (arr : Array Value) (k : Nat), (asplice arr k vs).toList.take m = lsplice (arr.toList.take m) k vs
  | [], arr, k => rfl
  | v :: vs, arr, k => by
    simp only [asplice, lsplice]
    rw [asplice_take m vs]
    simp [List.take_set]
theorem RepVals.lsplice {M} : ∀ {new : List AV} {vs : List Value} {cs : List AV} {l : List Value} (k : Nat), RepVals μ M w cs l → RepVals μ M w new vs → RepVals μ M w (Eng.splice cs k new) (Eng.lsplice l k vs)
  | [], vs, cs, l, k, h, hn => by simp only [RepVals] at hn; subst hn; exact h
  | c :: new, vs, cs, l, k, h, hn => by
    simp only [RepVals] at hn
    obtain ⟨v, vs', rfl, h1, h2⟩ := hn
    simp only [Eng.splice, Eng.lsplice]
    exact RepVals.lsplice (k + 1) (RepVals.set k h h1) h2
theorem flatten_set1 : ∀ (es : List (List AV)) (s i r : Nat) (cs : List AV) (c : AV), (∀ e ∈ es, e.length = s) → es[i]? = some cs → r < s → (es.set i (cs.set r c)).flatten = es.flatten.set (i * s + r) c
  | [], s, i, r, cs, c, _, h, _ => by simp at h
  | e :: es, s, 0, r, cs, c, hw, h, hr => by
    simp only [List.getElem?_cons_zero, Option.some.injEq] at h; subst h
    have he := hw e (by simp)
    simp only [List.set_cons_zero, List.flatten_cons, Nat.zero_mul, Nat.zero_add]
    rw [List.set_append_left _ _ (by omega)]
  | e :: es, s, i + 1, r, cs, c, hw, h, hr => by
    have he := hw e (by simp)
    have := flatten_set1 es s i r cs c (fun x hx => hw x (by simp [hx])) (by simpa using h) hr
    simp only [List.set_cons_succ, List.flatten_cons, this]
    rw [List.set_append_right _ _ (by rw [he, Nat.succ_mul]; omega), he]
    congr 2
    rw [Nat.succ_mul]; omega
theorem flatten_splice : ∀ (new : List AV) (es : List (List AV)) (s i r : Nat) (cs : List AV), (∀ e ∈ es, e.length = s) → es[i]? = some cs → r + new.length ≤ s → (es.set i (splice cs r new)).flatten = splice es.flatten (i * s + r) new
  | [], es, s, i, r, cs, hw, h, hr => by
    simp only [splice]
    have hlt : i < es.length := by
      rcases Nat.lt_or_ge i es.length with h' | h'
      · exact h'
      · simp [List.getElem?_eq_none h'] at h
    have : es.set i cs = es := by
      apply List.ext_getElem?
      intro j
      rw [List.getElem?_set]
      by_cases e : i = j
      · subst e; rw [h]; simp [hlt]
      · simp [e]
    rw [this]
  | c :: new, es, s, i, r, cs, hw, h, hr => by
    simp only [splice, List.length_cons] at hr ⊢
    have hlt : i < es.length := by
      rcases Nat.lt_or_ge i es.length with h' | h'
      · exact h'
      · simp [List.getElem?_eq_none h'] at h
    have h1 := flatten_set1 es s i r cs c hw h (by omega)
    have h2 := flatten_splice new (es.set i (cs.set r c)) s i (r + 1) (cs.set r c) (fun x hx => by
      rcases List.mem_or_eq_of_mem_set hx with h' | rfl
      · exact hw x h'
      · simpa using hw cs (List.mem_of_getElem? h)) (by simp [hlt]) (by omega)
    rw [List.set_set] at h2
    rw [h2, h1]
    rfl
end
end Go.Proofs.YtajbeippbabhhaaGreatDoor.Eng

namespace Go.Proofs.YtajbeippbabhhaaGreatDoor.Eng
open Go
section
variable {P : Program} {o : Oper} {a : Act} {μ : Mu} {S : Store} {w : World} {K : AV → Store → Prop} {E : AV → Store → Prop} {fr : Fr} {out : Out}

theorem out_val {v : AV} (hs : (some (Out.val v)) = some out) (hk : OutK P K E S out) : K v S := by cases hs; exact hk

theorem sound_mv {x : Operand} {l : LX} (ho : o.op = .move x ∨ o.op = .assign x) (hr : Repr μ S w) (hf : FrRep μ (Mut μ S) w fr a) (hx : lowerX x = some l)
    (hs : stepOp P fr S (.mv l) = some out) (hk : OutK P K E S out) : OpOk P o a μ S w K E := by
  simp only [stepOp] at hs
  refine val_ok (x := a.eval x) ?_ (out_val hs hk) hr (lowerX_sound hf hx)
  rcases ho with ho | ho <;> simp [execOp, ho]

theorem sound_pick {c x y : Operand} {lc lx ly : LX} (ho : o.op = .pick c x y) (hr : Repr μ S w) (hf : FrRep μ (Mut μ S) w fr a) (hc : lowerX c = some lc) (hx : lowerX x = some lx) (hy : lowerX y = some ly)
    (hs : stepOp P fr S (.pick lc lx ly) = some out) (hk : OutK P K E S out) : OpOk P o a μ S w K E := by
  have h1 := lowerX_sound hf hc
  simp only [stepOp] at hs
  split at hs
  · rename_i t ht
    rw [ht] at h1
    simp only [Rep] at h1
    refine val_ok (x := if t then a.eval x else a.eval y) ?_ (out_val hs hk) hr ?_
    · simp [execOp, ho, h1, asBool]
    · cases t
      · exact lowerX_sound hf hy
      · exact lowerX_sound hf hx
  · cases hs

theorem new_box (hr : Repr μ S w) (t : TypeId) {cs : List AV} {arr : Array Value} (hv : RepVals μ (Mut μ S) w cs arr.toList) (h1 : ∀ x ∈ arr.toList, one x = true) :
    ∃ μ', Repr μ' (S.push (.box t cs)) { w with heap := w.heap.push (.cells arr t) } ∧ Keeps μ (Mut μ S) w μ' (Mut μ' (S.push (.box t cs))) { w with heap := w.heap.push (.cells arr t) } ∧
      Rep μ' (Mut μ' (S.push (.box t cs))) { w with heap := w.heap.push (.cells arr t) } (.ptr S.n 0) (.pointer (some ⟨w.heap.size, 0, none⟩)) := by
  obtain ⟨μ', h2, h3, h4⟩ := hr.new (.box t cs) 0 0 (.cells arr t) (fun μ' M' w' hw hx hxs => ⟨arr, by subst hw; simp, hxs _ _ hv, h1⟩)
  refine ⟨μ', h3, h4, ?_⟩
  simp only [Rep]
  exact ⟨_, h2, rfl⟩

theorem sound_box {t : TypeId} {x : Operand} {l : LX} (ho : o.op = .box t x) (hr : Repr μ S w) (hf : FrRep μ (Mut μ S) w fr a) (hx : lowerX x = some l)
    (hs : stepOp P fr S (.box t l) = some out) (hk : OutK P K E S out) : OpOk P o a μ S w K E := by
  simp only [stepOp] at hs
  split at hs
  · rename_i cs hc
    cases hs
    obtain ⟨h1, h2⟩ := cellsOf_sound (lowerX_sound hf hx) hc
    obtain ⟨μ', h3, h4, h5⟩ := new_box hr t h1 h2
    refine st_ok ?_ hk h3 h4 h5
    simp [execOp, ho, Instr.box, newVar, newRow, newObj, Sem.run]
  · cases hs

theorem sound_alloc {t : TypeId} {cs : List AV} (ho : o.op = .alloc t) (hr : Repr μ S w) (hz : zeroOf P t = some cs)
    (hs : stepOp P fr S (.alloc t cs) = some out) (hk : OutK P K E S out) : OpOk P o a μ S w K E := by
  simp only [stepOp] at hs
  cases hs
  unfold zeroOf at hz
  split at hz
  · rename_i i hi
    split at hz
    · rename_i z hzz
      split at hz
      · rename_i hc
        simp only [Bool.and_eq_true, decide_eq_true_eq] at hc
        cases hz
        have hv : RepVals μ (Mut μ S) w (z.cells.toList.map ofV1) z.cells.toList ∧ ∀ x ∈ z.cells.toList, one x = true := by
          refine repVals_ofV1 _ _ _ _ ?_
          have := hc.1
          cases z <;> simp_all [okV, Value.cells]
        obtain ⟨μ', h3, h4, h5⟩ := new_box hr t hv.1 hv.2
        refine st_ok ?_ hk h3 h4 h5
        simp [execOp, ho, Instr.alloc, newVar, newRow, newObj, Sem.run, zeroValue, run_info hi, hzz]
      · cases hz
    · cases hz
  · cases hz

theorem sound_load {t : TypeId} {x : Operand} {l : LX} {i : TypeInfo} {d : TypeDesc} {ag : Bool} {n : Nat} (ho : o.op = .load t x) (hr : Repr μ S w) (hf : FrRep μ (Mut μ S) w fr a) (hx : lowerX x = some l)
    (hi : P.info? t = some i) (hd : P.underlying t = some d) (hag : isAggB P t = ag) (hn : if ag then n = i.size else n = 1)
    (hs : stepOp P fr S (.load ag n l) = some out) (hk : OutK P K E S out) : OpOk P o a μ S w K E := by
  have hp := lowerX_sound hf hx
  simp only [stepOp] at hs
  split at hs
  · rename_i cs hc
    split at hs
    · rename_i hlen
      obtain ⟨b, off, he, h1⟩ := deref_sound hr hp hc
      obtain ⟨v, h2, h3⟩ := run_loadVar_of t hi hd b off cs h1 ag n hag hn hlen
      refine val_ok (x := v) ?_ (out_val hs hk) hr h3
      simp [execOp, ho, Instr.loadAt, Instr.sureAddr, he, h2]
    · cases hs
  · cases hs

theorem sound_store {t : TypeId} {p x : Operand} {lp lx : LX} {i : TypeInfo} (ho : o.op = .store t p x) (hr : Repr μ S w) (hf : FrRep μ (Mut μ S) w fr a) (hp : lowerX p = some lp) (hx : lowerX x = some lx)
    (hi : P.info? t = some i) (hs : stepOp P fr S (.store i.size lp lx) = some out) (hk : OutK P K E S out) : OpOk P o a μ S w K E := by
  have hpr := lowerX_sound hf hp
  have hxr := lowerX_sound hf hx
  simp only [stepOp] at hs
  split at hs
  · rename_i cs hc
    split at hs
    · rename_i hlen
      split at hs
      · rename_i S' hput
        cases hs
        obtain ⟨h1, h2⟩ := cellsOf_sound hxr hc
        have hsz : (a.eval x).cells.size = i.size := by rw [← hlen, ← h1.length, Array.length_toList]
        have key : ∃ b off arr ty fz, a.eval p = .pointer (some ⟨b, off, none⟩) ∧ w.heap[b]? = some (.cells arr ty fz) ∧ off + (a.eval x).cells.toList.length ≤ arr.size ∧
            (∀ j, off ≤ j → j < off + (a.eval x).cells.toList.length → ¬ (fz.1 ≤ j ∧ j < fz.2)) ∧
            (Repr μ S' { w with heap := w.heap.setIfInBounds b (.cells (asplice arr off (a.eval x).cells.toList) ty fz) } ∧
             Keeps μ (Mut μ S) w μ (Mut μ S') { w with heap := w.heap.setIfInBounds b (.cells (asplice arr off (a.eval x).cells.toList) ty fz) }) := by
          generalize hev : ev fr lp = pv at hpr hput
          cases pv with
          | ptr l off =>
            simp only [Rep] at hpr
            obtain ⟨c, hcl, he⟩ := hpr
            simp only [putRef] at hput
            split at hput
            · rename_i t' cs' hl
              split at hput
              · rename_i hle
                cases hput
                obtain ⟨arr, a1, a2, a3⟩ := repr_box hr hl hcl
                have hal : arr.size = cs'.length := by rw [← a2.length, Array.length_toList]
                refine ⟨c.block, off, arr, t', (0, 0), he, a1, ?_, by simp, ?_⟩
                · rw [h1.length, hal]; exact hle
                · refine hr.set hl hcl _ (heap_lt a1) fun w' hw hx' hxs => ?_
                  subst hw
                  refine ⟨asplice arr off (a.eval x).cells.toList, by simp [heap_lt a1], ?_, one_asplice _ _ _ a3 h2⟩
                  exact RepVals.splice off (hxs _ _ a2) (hxs _ _ h1)
              · cases hput
            · cases hput
          | rptr l ix r =>
            simp only [Rep] at hpr
            obtain ⟨c, hcl, he⟩ := hpr
            simp only [putRef] at hput
            split at hput
            · rename_i t' s' es hl
              split at hput
              · rename_i cs' hcs
                split at hput
                · rename_i hle
                  cases hput
                  obtain ⟨b0, arr, fz, b1, b2, b3, b4, b5, b6, b7, b8, b9⟩ := repr_row hr hl hcl
                  have hlt : ix < es.length := by
                    rcases Nat.lt_or_ge ix es.length with h | h
                    · exact h
                    · simp [List.getElem?_eq_none h] at hcs
                  have hcl' : cs'.length = c.size := b5 cs' (List.mem_of_getElem? hcs)
                  have hmul : ix * c.size + c.size ≤ es.length * c.size := by
                    have := Nat.mul_le_mul_right c.size (Nat.succ_le_of_lt hlt)
                    rwa [Nat.succ_mul] at this
                  have hsz2 : es.length * c.size ≤ arr.size := by rw [b2]; exact Nat.mul_le_mul_right _ b3
                  have hbnd : ix * c.size + r + (a.eval x).cells.toList.length ≤ es.length * c.size := by rw [h1.length]; omega
                  refine ⟨c.block, ix * c.size + r, arr, t', fz, he, b1, by omega, ?_, ?_⟩
                  · intro j j1 j2 hj
                    exact b8 j (by omega) (by omega) hj
                  · refine hr.set hl hcl _ (heap_lt b1) fun w' hw hx' hxs => ?_
                    subst hw
                    refine ⟨b0, asplice arr (ix * c.size + r) (a.eval x).cells.toList, fz, by simp [heap_lt b1], by rw [size_asplice]; exact b2, by simpa using b3, by simpa using b4, ?_, ?_, one_asplice _ _ _ b7 h2, by rw [size_asplice]; exact b8, by simpa using b9⟩
                    · intro e he'
                      rcases List.mem_or_eq_of_mem_set he' with h' | rfl
                      · exact b5 e h'
                      · rw [splice_length]; exact hcl'
                    · rw [List.length_set, asplice_take, flatten_splice cs es c.size ix r cs' b5 hcs (by omega)]
                      exact RepVals.lsplice _ (hxs _ _ b6) (hxs _ _ h1)
                · cases hput
              · cases hput
            · cases hput
          | _ => simp [putRef] at hput
        obtain ⟨b, off, arr, ty, fz, he, g1, g2, g3, g4, g5⟩ := key
        refine st_ok_skip (v := .und) ?_ hk g4 g5 (by simp only [Rep])
        have := run_storeCells_blk (P := P) b ty fz (a.eval x).cells.toList off 0 arr w g1 (by simpa using g2) (by simpa using g3) h2
        simp only [Nat.add_zero] at this
        simp [execOp, ho, Instr.storeAt, Instr.sureAddr, he, storeVar, run_size hi, hsz, this]
      · cases hs
    · cases hs
  · cases hs
end
end Go.Proofs.YtajbeippbabhhaaGreatDoor.Eng

namespace Go.Proofs.YtajbeippbabhhaaGreatDoor.Eng
open Go
section
variable {P : Program} {o : Oper} {a : Act} {μ : Mu} {S : Store} {w : World} {K : AV → Store → Prop} {E : AV → Store → Prop} {fr : Fr} {out : Out}

theorem out_map {α : Type} {f : Option α} {g : α → Out} (hs : f.map g = some out) : ∃ x, f = some x ∧ out = g x := by
  cases f with
  | none => cases hs
  | some x => exact ⟨x, rfl, by simpa using hs.symm⟩

theorem add_plain (b o n : Nat) : (⟨b, o, none⟩ : Addr).add n = ⟨b, o + n, none⟩ := by unfold Addr.add; split <;> simp_all

theorem faddr_sound {M} {x : AV} {v : Value} (h : Rep μ M w x v) {k : Nat} {y : AV} (hy : faddrV k x = some y) : ∃ b off, v = .pointer (some ⟨b, off, none⟩) ∧ Rep μ M w y (.pointer (some ⟨b, off + k, none⟩)) := by
  cases x <;> simp only [faddrV, Option.some.injEq, reduceCtorEq] at hy
  · subst hy
    simp only [Rep] at h ⊢
    obtain ⟨c, h1, h2⟩ := h
    exact ⟨_, _, h2, c, h1, rfl⟩
  · subst hy
    simp only [Rep] at h ⊢
    obtain ⟨c, h1, h2⟩ := h
    exact ⟨_, _, h2, c, h1, by rw [Nat.add_assoc]⟩
  · subst hy
    simp only [Rep] at h ⊢
    obtain ⟨b, o, h1, h2, h3, h4⟩ := h
    exact ⟨_, _, h3, b, o, h1, h2, by rw [Nat.add_assoc], h4⟩

theorem sound_faddr {s : TypeId} {x : Operand} {f : Nat} {l : LX} {fs : Array Field} {fd : Field} {i : TypeInfo} (ho : o.op = .fieldAddr s x f) (hr : Repr μ S w) (hf : FrRep μ (Mut μ S) w fr a) (hx : lowerX x = some l)
    (hd : P.underlying s = some (.struct fs)) (hfd : fs[f]? = some fd) (hi : P.info? fd.type = some i) (hz : i.size ≠ 0)
    (hs : stepOp P fr S (.faddr fd.offset l) = some out) (hk : OutK P K E S out) : OpOk P o a μ S w K E := by
  simp only [stepOp] at hs
  obtain ⟨y, hy, rfl⟩ := out_map hs
  obtain ⟨b, off, he, h2⟩ := faddr_sound (lowerX_sound hf hx) hy
  refine val_ok ?_ hk hr h2
  simp [execOp, ho, Instr.fieldAt, run_und hd, hfd, Instr.sureAddr, he, fieldPlace, run_size hi, hz, add_plain]

theorem sound_nilchk {x : Operand} {l : LX} (ho : o.op = .nilCheck x) (hr : Repr μ S w) (hf : FrRep μ (Mut μ S) w fr a) (hx : lowerX x = some l)
    (hs : stepOp P fr S (.nilchk l) = some out) (hk : OutK P K E S out) : OpOk P o a μ S w K E := by
  have h1 := lowerX_sound hf hx
  simp only [stepOp] at hs
  split at hs
  · rename_i hp
    refine val_ok (x := a.eval x) ?_ (out_val hs hk) hr h1
    generalize ev fr l = p at h1 hp
    cases p <;> simp only [isPtr, Bool.false_eq_true] at hp <;> simp only [Rep] at h1
    · obtain ⟨c, _, h2⟩ := h1; simp [execOp, ho, h2]
    · obtain ⟨c, _, h2⟩ := h1; simp [execOp, ho, h2]
    · obtain ⟨b, o', _, _, h2, _⟩ := h1; simp [execOp, ho, h2]
  · cases hs

theorem run_int (t : TypeId) (op : BinOp) (k : IntKind) (x y : Int) {v : AV} (hop : op ≠ .shl ∧ op ≠ .shr) (h : abinI op k x y = some v) :
    ∃ u, (binOp op t (.int k x) (.int k y)).run P w = .ok u w ∧ Rep μ (Mut μ S) w v u := by
  obtain ⟨h1, h2⟩ := hop
  cases op <;> simp only [abinI, ibits, Option.map_some, Option.some.injEq, reduceCtorEq, ne_eq, not_true_eq_false, not_false_eq_true] at h h1 h2 <;> try dsimp only [bitsA] at h
  case quo =>
    split at h
    · cases h
    · cases h; rename_i hz; exact ⟨_, by simp [binOp, Op.intDiv, hz]; rfl, by simp only [Rep]⟩
  case rem =>
    split at h
    · cases h
    · cases h; rename_i hz; exact ⟨_, by simp [binOp, Op.intDiv, hz]; rfl, by simp only [Rep]⟩
  all_goals (subst h; exact ⟨_, by simp [binOp, Op.intArith, Op.intBits, Op.intCmp]; rfl, by first | (simp [Rep]; done) | (simp [Rep]; rfl)⟩)

theorem run_shift (t : TypeId) (op : BinOp) (k k' : IntKind) (x y : Int) {v : AV} (hop : op = .shl ∨ op = .shr) (h : ashift op k x y = some v) :
    ∃ u, (binOp op t (.int k x) (.int k' y)).run P w = .ok u w ∧ Rep μ (Mut μ S) w v u := by
  unfold ashift at h
  simp only [bitsA] at h
  split at h
  · cases h
  · rename_i hy
    rcases hop with rfl | rfl <;> simp only [Option.some.injEq] at h <;> subst h <;> exact ⟨_, by simp [binOp, Op.shift, hy]; rfl, by simp only [Rep]⟩

theorem eqGuard_plain (op : BinOp) (t : TypeId) (x y : Operand) (u v : Value) (h : (match u with | .nilIface | .agg _ => false | _ => true) = true) : (eqGuard op t x y u v).run P w = .ok () w := by
  unfold eqGuard
  cases op <;> simp <;> cases u <;> simp_all

theorem run_str (t : TypeId) (op : BinOp) (x y : List UInt8) {out : Out} (h : abinS S op x y = some out) (hx : x.length ≤ strMax) (hr : Repr μ S w) (hk : OutK P K E S out) :
    ∃ u v, (binOp op t (strV x) (strV y)).run P w = .ok u w ∧ Rep μ (Mut μ S) w v u ∧ K v S := by
  cases op <;> simp only [abinS, Option.some.injEq, reduceCtorEq] at h
  · subst h
    simp only [OutK, true_implies] at hk
    obtain ⟨h1, h2⟩ := hk
    refine ⟨strV (x ++ y), _, ?_, ?_, h2⟩
    · have : ¬ (((x.length + y.length : Nat) : Int) > IntKind.i64.max) := by
        have e : IntKind.i64.max = 9223372036854775807 := by decide
        rw [e]; unfold strMax at h1; omega
      have hsz : (⟨x.toArray⟩ : ByteArray).size = x.length := by simp [ByteArray.size]
      have hsy : (⟨y.toArray⟩ : ByteArray).size = y.length := by simp [ByteArray.size]
      have happ : (⟨x.toArray⟩ : ByteArray) ++ ⟨y.toArray⟩ = ⟨(x ++ y).toArray⟩ := by
        apply ByteArray.ext
        simp [ByteArray.data_append]
      simp only [strV, binOp, Op.stringOp, hsz, hsy, this, if_false, Sem.run_pure, happ]
    · simp only [Rep, strV]; simpa [strV] using h1
  all_goals
    subst h
    refine ⟨_, _, by simp [strV, binOp, Op.stringOp, ByteArray.toList_eq]; rfl, ?_, hk⟩
    first | (simp only [Rep]; done) | (simp only [Rep]; rfl) | (simp only [Rep]; congr 1; rw [Bool.eq_iff_iff]; simp)
end
end Go.Proofs.YtajbeippbabhhaaGreatDoor.Eng

namespace Go.Proofs.YtajbeippbabhhaaGreatDoor.Eng
open Go
section
variable {P : Program} {o : Oper} {a : Act} {μ : Mu} {S : Store} {w : World} {K : AV → Store → Prop} {E : AV → Store → Prop} {fr : Fr} {out : Out}

theorem sound_bin {op : BinOp} {t t' : TypeId} {x y : Operand} {lx ly : LX} (ho : o.op = .binOp op t x y t') (hr : Repr μ S w) (hf : FrRep μ (Mut μ S) w fr a) (hx : lowerX x = some lx) (hy : lowerX y = some ly)
    (hs : stepOp P fr S (.bin op lx ly) = some out) (hk : OutK P K E S out) : OpOk P o a μ S w K E := by
  have h1 := lowerX_sound hf hx
  have h2 := lowerX_sound hf hy
  simp only [stepOp] at hs
  generalize ev fr lx = p at h1 hs
  generalize ev fr ly = q at h2 hs
  have run : ∀ u, (binOp op t (a.eval x) (a.eval y)).run P w = .ok u w → (match a.eval x with | .nilIface | .agg _ => false | _ => true) = true → (execOp a.eval o).run P w = .ok (.value u) w := by
    intro u hu hg
    simp [execOp, ho, eqGuard_plain op t x y _ _ hg, hu]
  unfold abin at hs
  split at hs
  · rename_i k x' k' y'
    simp only [Rep] at h1 h2
    rw [h1, h2] at run
    split at hs
    · obtain ⟨v, hv, rfl⟩ := out_map hs
      obtain ⟨u, hu, hv'⟩ := run_shift (P := P) (μ := μ) (S := S) (w := w) t .shl k k' x' y' (.inl rfl) hv
      exact val_ok (run u hu rfl) hk hr hv'
    · obtain ⟨v, hv, rfl⟩ := out_map hs
      obtain ⟨u, hu, hv'⟩ := run_shift (P := P) (μ := μ) (S := S) (w := w) t .shr k k' x' y' (.inr rfl) hv
      exact val_ok (run u hu rfl) hk hr hv'
    · split at hs
      · rename_i hne1 hne2 hkk
        subst hkk
        obtain ⟨v, hv, rfl⟩ := out_map hs
        obtain ⟨u, hu, hv'⟩ := run_int (P := P) (μ := μ) (S := S) (w := w) t _ k x' y' ⟨hne1, hne2⟩ hv
        exact val_ok (run u hu rfl) hk hr hv'
      · cases hs
  · rename_i x' y'
    simp only [Rep] at h1 h2
    rw [h1.1, h2.1] at run
    obtain ⟨u, v, hu, hv, hkv⟩ := run_str t op x' y' hs h1.2 hr hk
    exact val_ok (run u hu rfl) hkv hr hv
  · cases hs

theorem equalIn_bool {t : TypeId} (hd : P.underlying t = some .bool) (d : Nat) (p q : Bool) : (Op.equalIn (d + 1) t (.bool p) (.bool q)).run P w = .ok (p == q) w := by
  simp only [Op.equalIn, Sem.run_bind, run_und hd, Result.andThen_ok, Sem.run_pure]

theorem sound_eqb {neg : Bool} {t t' : TypeId} {x y : Operand} {lx ly : LX} (ho : o.op = .binOp (if neg then .neq else .eql) t x y t') (hr : Repr μ S w) (hf : FrRep μ (Mut μ S) w fr a) (hx : lowerX x = some lx) (hy : lowerX y = some ly)
    (hd : P.underlying t = some .bool) (hs : stepOp P fr S (.eqb neg lx ly) = some out) (hk : OutK P K E S out) : OpOk P o a μ S w K E := by
  have h1 := lowerX_sound hf hx
  have h2 := lowerX_sound hf hy
  simp only [stepOp] at hs
  obtain ⟨v, hv, rfl⟩ := out_map hs
  generalize ev fr lx = p at h1 hv
  generalize ev fr ly = q at h2 hv
  unfold aeqb at hv
  split at hv
  · rename_i p' q'
    simp only [Option.some.injEq] at hv; subst hv
    simp only [Rep] at h1 h2
    have he : (Op.equal t (.bool p') (.bool q')).run P w = .ok (p' == q') w := by
      exact equalIn_bool hd 9999 p' q'
    refine val_ok (x := .bool (if neg then decide (p' ≠ q') else decide (p' = q'))) ?_ hk hr (by simp only [Rep])
    cases neg
    · simp [execOp, ho, h1, h2, eqGuard, binOp, he]
      cases p' <;> cases q' <;> rfl
    · simp [execOp, ho, h1, h2, eqGuard, binOp, he]
      cases p' <;> cases q' <;> rfl
  · cases hv

theorem sound_un {op : UnOp} {t : TypeId} {x : Operand} {lx : LX} (ho : o.op = .unOp op t x) (hr : Repr μ S w) (hf : FrRep μ (Mut μ S) w fr a) (hx : lowerX x = some lx)
    (hs : stepOp P fr S (.un op lx) = some out) (hk : OutK P K E S out) : OpOk P o a μ S w K E := by
  have h1 := lowerX_sound hf hx
  simp only [stepOp] at hs
  obtain ⟨v, hv, rfl⟩ := out_map hs
  generalize ev fr lx = p at h1 hv
  unfold aun at hv
  split at hv
  · split at hv
    · cases hv
      simp only [Rep] at h1
      exact val_ok (by simp [execOp, ho, h1, Op.unary]; rfl) hk hr (by simp only [Rep])
    · cases hv
  · split at hv
    · cases hv
      simp only [Rep] at h1
      exact val_ok (by simp [execOp, ho, h1, Op.unary, Op.intArith]; rfl) hk hr (by simp [Rep])
    · cases hv
  · cases hv

theorem sound_cint {src dst : TypeId} {ks k : IntKind} {x : Operand} {lx : LX} (ho : o.op = .convert src dst x) (hr : Repr μ S w) (hf : FrRep μ (Mut μ S) w fr a) (hx : lowerX x = some lx)
    (h1 : P.underlying src = some (.int ks)) (h2 : P.underlying dst = some (.int k)) (hs : stepOp P fr S (.cvt (.int k) lx) = some out) (hk : OutK P K E S out) : OpOk P o a μ S w K E := by
  have h3 := lowerX_sound hf hx
  simp only [stepOp] at hs
  split at hs
  · rename_i k' n hn
    rw [hn] at h3
    simp only [Rep] at h3
    refine val_ok (x := .int k (k.wrap n)) ?_ (out_val hs hk) hr (by simp only [Rep])
    simp [execOp, ho, convert, run_und h1, run_und h2, h3, Conv.intToInt]
  · cases hs

theorem sound_csame {src dst : TypeId} {x : Operand} {lx : LX} (ho : o.op = .convert src dst x) (hr : Repr μ S w) (hf : FrRep μ (Mut μ S) w fr a) (hx : lowerX x = some lx)
    (h1 : P.underlying src = some .string) (h2 : P.underlying dst = some .string) (hs : stepOp P fr S (.cvt .same lx) = some out) (hk : OutK P K E S out) : OpOk P o a μ S w K E := by
  have h3 := lowerX_sound hf hx
  simp only [stepOp] at hs
  split at hs
  · rename_i s hn
    rw [hn] at h3
    refine val_ok (x := a.eval x) ?_ (out_val hs hk) hr h3
    simp only [Rep] at h3
    simp [execOp, ho, convert, run_und h1, run_und h2, h3.1, strV]
  · cases hs

theorem fld_take {M} {cs : List AV} {arr : Array Value} (h : RepVals μ M w cs arr.toList) (off n : Nat) : RepVals μ M w ((cs.drop off).take n) (arr.extract off (off + n)).toList := by
  have := (h.drop off).take n
  simpa [List.take_drop, Nat.add_comm] using this

theorem sound_fld {s : TypeId} {x : Operand} {f : Nat} {l : LX} {fs : Array Field} {fd : Field} {i : TypeInfo} {d : TypeDesc} {ag : Bool} {n : Nat} (ho : o.op = .field s x f) (hr : Repr μ S w) (hf : FrRep μ (Mut μ S) w fr a) (hx : lowerX x = some l)
    (hd : P.underlying s = some (.struct fs)) (hfd : fs[f]? = some fd) (hi : P.info? fd.type = some i) (hdd : P.underlying fd.type = some d) (hag : isAggB P fd.type = ag) (hn : if ag then n = i.size else n = 1)
    (hs : stepOp P fr S (.fld ag fd.offset n l) = some out) (hk : OutK P K E S out) : OpOk P o a μ S w K E := by
  have h1 := lowerX_sound hf hx
  simp only [stepOp] at hs
  obtain ⟨v, hv, rfl⟩ := out_map hs
  generalize ev fr l = p at h1 hv
  unfold fldV at hv
  split at hv
  · rename_i cs
    split at hv
    · rename_i hle
      simp only [Option.some.injEq] at hv; subst hv
      simp only [Rep] at h1
      obtain ⟨arr, he, h2, h3⟩ := h1
      cases ag with
      | true =>
        simp only [if_true] at hn; subst hn
        refine val_ok (x := .agg (arr.extract fd.offset (fd.offset + i.size))) ?_ hk hr ?_
        · simp [execOp, ho, Instr.field, run_und hd, hfd, he, asAgg, part, run_isAgg hdd, hag, run_size hi]
        · simp only [mk, if_true, Rep]
          exact ⟨_, rfl, fld_take h2 _ _, fun y hy => h3 y (by
            have hy' := hy
            simp only [Array.toList_extract] at hy'
            exact List.mem_of_mem_drop (List.mem_of_mem_take (by simpa [List.extract] using hy')))⟩
      | false =>
        simp only [Bool.false_eq_true, if_false] at hn; subst hn
        have hlt : fd.offset < cs.length := by omega
        obtain ⟨u, hu, hru⟩ := h2.at fd.offset cs[fd.offset] (by simp [hlt])
        refine val_ok (x := u) ?_ hk hr ?_
        · have hu' : arr[fd.offset]? = some u := by simpa using hu
          simp [execOp, ho, Instr.field, run_und hd, hfd, he, asAgg, part, run_isAgg hdd, hag, hu']
        · have : ((cs.drop fd.offset).take 1).headD .junk = cs[fd.offset] := by
            rw [List.drop_eq_getElem_cons hlt]; rfl
          simp only [mk, Bool.false_eq_true, if_false, this]
          exact hru
    · cases hv
  · cases hv

theorem sound_idx {t : TypeId} {x i : Operand} {lx li : LX} (ho : o.op = .index t x i) (hr : Repr μ S w) (hf : FrRep μ (Mut μ S) w fr a) (hx : lowerX x = some lx) (hi : lowerX i = some li)
    (hd : P.underlying t = some .string) (hs : stepOp P fr S (.idx lx li) = some out) (hk : OutK P K E S out) : OpOk P o a μ S w K E := by
  have h1 := lowerX_sound hf hx
  have h2 := lowerX_sound hf hi
  simp only [stepOp] at hs
  split at hs
  · rename_i s hsx
    rw [hsx] at h1
    split at hs
    · rename_i k j hj
      rw [hj] at h2
      split at hs
      · rename_i h0
        split at hs
        · rename_i b hb
          simp only [Rep] at h1 h2
          refine val_ok (x := .int .u8 b.toNat) ?_ (out_val hs hk) hr (by simp only [Rep])
          have hlt : j.toNat < s.length := by
            rcases Nat.lt_or_ge j.toNat s.length with h | h
            · exact h
            · simp [List.getElem?_eq_none h] at hb
          have hb' : (⟨s.toArray⟩ : ByteArray)[j.toNat]? = some b := by
            have hsz : j.toNat < (⟨s.toArray⟩ : ByteArray).size := by simpa [ByteArray.size] using hlt
            rw [getElem?_pos (⟨s.toArray⟩ : ByteArray) j.toNat hsz]
            rw [List.getElem?_eq_getElem hlt] at hb
            simp only [Option.some.injEq] at hb ⊢
            rw [← hb]; rfl
          simp [execOp, ho, Instr.index, h1.1, h2, asIntOf, run_und hd, strV, h0, hb']
        · cases hs
      · cases hs
    · cases hs
  · cases hs
end
end Go.Proofs.YtajbeippbabhhaaGreatDoor.Eng

namespace Go.Proofs.YtajbeippbabhhaaGreatDoor.Eng
open Go
section
variable {P : Program} {o : Oper} {a : Act} {μ : Mu} {S : Store} {w : World} {K : AV → Store → Prop} {E : AV → Store → Prop} {fr : Fr} {out : Out}

theorem get_lt {α : Type} {l : List α} {i : Nat} {x : α} (h : l[i]? = some x) : i < l.length := by
  rcases Nat.lt_or_ge i l.length with h' | h'
  · exact h'
  · simp [List.getElem?_eq_none h'] at h

theorem sound_iaddr {t e : TypeId} {x i : Operand} {lx li : LX} {ti : TypeInfo} (ho : o.op = .indexAddr t x i) (hr : Repr μ S w) (hf : FrRep μ (Mut μ S) w fr a) (hx : lowerX x = some lx) (hi : lowerX i = some li)
    (hd : P.underlying t = some (.slice e)) (hti : P.info? e = some ti) (hs : stepOp P fr S (.iaddr ti.size lx li) = some out) (hk : OutK P K E S out) : OpOk P o a μ S w K E := by
  have h1 := lowerX_sound hf hx
  have h2 := lowerX_sound hf hi
  simp only [stepOp] at hs
  split at hs
  · rename_i k j hj
    rw [hj] at h2
    simp only [Rep] at h2
    split at hs
    · rename_i h0
      split at hs
      · rename_i s' es n hx'
        rw [hx'] at h1
        split at hs
        · rename_i hss
          obtain ⟨hss, hjn⟩ := hss
          subst hss
          split at hs
          · rename_i cs hcs
            simp only [Rep] at h1
            obtain ⟨A, c, he, h3', h3, h4, h5, h6⟩ := h1
            have hlt := get_lt hcs
            rcases h6 with h6 | ⟨b, off, hA, hb, hm, hrow⟩
            · subst h6; simp at hlt
            · refine val_ok (x := .pointer (some ⟨b, off + j.toNat * ti.size, none⟩)) ?_ (out_val hs hk) hr ?_
              · have hj1 : j < (n : Int) := by omega
                simp [execOp, ho, Instr.indexAt, he, h2, asIntOf, run_und hd, hA, h0, hj1, run_size hti, add_plain]
              · simp only [Rep]
                exact ⟨b, off + j.toNat * ti.size, hb, hm, rfl, RepRow.at _ es b off _ cs hrow hcs⟩
          · cases hs
        · cases hs
      · rename_i l off len hx'
        rw [hx'] at h1
        split at hs
        · rename_i t' s' frz es hl
          split at hs
          · rename_i hss
            subst hss
            cases hs
            simp only [OutK, true_implies] at hk
            obtain ⟨⟨hj1, hj2⟩, hk⟩ := hk
            simp only [Rep] at h1
            obtain ⟨c, A, hc, h3, h4, he, hA⟩ := h1
            obtain ⟨h5, _⟩ := repr_row hr hl hc
            refine val_ok (x := .pointer (some ⟨c.block, (off + j.toNat) * c.size, none⟩)) ?_ hk hr ?_
            · have hA' := hA (by omega)
              have hj3 : j < (len : Int) := by omega
              simp [execOp, ho, Instr.indexAt, he, h2, asIntOf, run_und hd, hA', h0, hj3, run_size hti, add_plain, h5, Nat.add_mul]
            · simp only [Rep]
              exact ⟨c, hc, by simp⟩
          · cases hs
        · cases hs
      · cases hs
    · cases hs
  · cases hs

theorem strSize (s : List UInt8) : (⟨s.toArray⟩ : ByteArray).size = s.length := by simp [ByteArray.size]

/-- A bound of a slice expression. -/
theorem bound_sound {x : Option Operand} {lx : Option LX} (hf : FrRep μ (Mut μ S) w fr a) (hx : lowerO x = some lx) {d n : Nat} (h : idxOf fr lx d = some n) :
    (x = none ∧ lx = none ∧ n = d) ∨ ∃ y l k i, x = some y ∧ lx = some l ∧ a.eval y = .int k i ∧ 0 ≤ i ∧ n = i.toNat := by
  cases x with
  | none => simp only [lowerO, Option.some.injEq] at hx; subst hx; simp only [idxOf, Option.some.injEq] at h; exact .inl ⟨rfl, rfl, h.symm⟩
  | some y =>
    simp only [lowerO] at hx
    obtain ⟨l, hl, rfl⟩ : ∃ l, lowerX y = some l ∧ lx = some l := by
      cases hy : lowerX y with
      | none => rw [hy] at hx; cases hx
      | some l => rw [hy] at hx; exact ⟨l, rfl, by simpa using hx.symm⟩
    have h1 := lowerX_sound hf hl
    simp only [idxOf] at h
    split at h
    · rename_i k i hi
      rw [hi] at h1
      simp only [Rep] at h1
      split at h
      · cases h; exact .inr ⟨y, l, k, i, rfl, rfl, h1, ‹_›, rfl⟩
      · cases h
    · cases h

theorem run_bounds (isS : Bool) (len cap : Nat) {lo hi : Option Operand} {llo lhi : Option LX} (hf : FrRep μ (Mut μ S) w fr a) (hlo : lowerO lo = some llo) (hhi : lowerO hi = some lhi) {l h : Nat}
    (h1 : idxOf fr llo 0 = some l) (h2 : idxOf fr lhi len = some h) (hle : l ≤ h) (hcap : h ≤ cap) :
    (Instr.sliceBounds isS len cap (lo.map a.eval) (hi.map a.eval) none).run P w = .ok (l, h, cap) w := by
  rcases bound_sound hf hhi h2 with ⟨rfl, rfl, rfl⟩ | ⟨y, ly, k, i, rfl, rfl, he, h0, rfl⟩ <;>
  rcases bound_sound hf hlo h1 with ⟨rfl, rfl, rfl⟩ | ⟨y', ly', k', i', rfl, rfl, he', h0', rfl⟩
  · simp [Instr.sliceBounds]
  · have : i' ≤ (h : Int) := by omega
    simp [Instr.sliceBounds, Instr.sliceBound, asIntOf, he', h0', this]
  · have : i ≤ (cap : Int) := by omega
    simp [Instr.sliceBounds, Instr.sliceBound, asIntOf, he, h0, this]
  · have h3 : i ≤ (cap : Int) := by omega
    have h4 : i' ≤ i := by omega
    have h5 : i' ≤ (i.toNat : Int) := by omega
    have h6 : max i 0 = i := by omega
    simp [Instr.sliceBounds, Instr.sliceBound, asIntOf, he, h0, h3, he', h0', h4, h5, h6]

theorem sound_slcS {t : TypeId} {x : Operand} {lo hi : Option Operand} {lx : LX} {llo lhi : Option LX} (ho : o.op = .slice t x lo hi none) (hr : Repr μ S w) (hf : FrRep μ (Mut μ S) w fr a) (hx : lowerX x = some lx)
    (hlo : lowerO lo = some llo) (hhi : lowerO hi = some lhi) (hd : P.underlying t = some .string) (hs : stepOp P fr S (.slcS lx llo lhi) = some out) (hk : OutK P K E S out) : OpOk P o a μ S w K E := by
  have h1 := lowerX_sound hf hx
  simp only [stepOp] at hs
  split at hs
  · rename_i s hsx
    rw [hsx] at h1
    simp only [Rep] at h1
    split at hs
    · rename_i l h hl hh
      split at hs
      · rename_i hle
        have hb := run_bounds (P := P) false s.length s.length hf hlo hhi hl hh hle.1 hle.2
        refine val_ok (x := strV ((s.take h).drop l)) ?_ (out_val hs hk) hr ?_
        · have hex : (⟨s.toArray⟩ : ByteArray).extract l h = ⟨((s.take h).drop l).toArray⟩ := by
            apply ByteArray.ext
            rw [ByteArray.data_extract]
            apply Array.ext'
            simp [List.extract, List.take_drop, Nat.add_sub_cancel' hle.1]
          simp only [execOp, ho, Instr.sliceAt, Instr.slice, Sem.run_bind, run_und hd, Result.andThen_ok, h1.1, strV, strSize, hb, Option.isSome_none, Bool.false_eq_true, if_false, Sem.run_pure, hex]
          simp [strSize, hb, hex]
        · simp only [Rep]
          refine ⟨trivial, ?_⟩
          simp only [List.length_drop, List.length_take]
          omega
      · cases hs
    · cases hs
  · cases hs
end
end Go.Proofs.YtajbeippbabhhaaGreatDoor.Eng

namespace Go.Proofs.YtajbeippbabhhaaGreatDoor.Eng
open Go
section
variable {P : Program} {o : Oper} {a : Act} {μ : Mu} {S : Store} {w : World} {K : AV → Store → Prop} {E : AV → Store → Prop} {fr : Fr} {out : Out}

theorem sound_slc {t e : TypeId} {x : Operand} {lo hi : Option Operand} {lx : LX} {llo lhi : Option LX} {ti : TypeInfo} (ho : o.op = .slice t x lo hi none) (hr : Repr μ S w) (hf : FrRep μ (Mut μ S) w fr a) (hx : lowerX x = some lx)
    (hlo : lowerO lo = some llo) (hhi : lowerO hi = some lhi) (hd : P.underlying t = some (.slice e)) (hti : P.info? e = some ti) (hs : stepOp P fr S (.slc ti.size lx llo lhi) = some out) (hk : OutK P K E S out) : OpOk P o a μ S w K E := by
  have h1 := lowerX_sound hf hx
  simp only [stepOp] at hs
  split at hs
  · rename_i s' es n hsx
    rw [hsx] at h1
    split at hs
    · rename_i hss
      subst hss
      split at hs
      · rename_i l h hl hh
        split at hs
        · rename_i hle
          simp only [Rep] at h1
          obtain ⟨A, c, he, h3', h3, h4, h5, h6⟩ := h1
          have hb := run_bounds (P := P) true n c hf hlo hhi hl hh hle.1 (by omega)
          refine val_ok (x := .slice (if c = l then A else A.map (·.add (l * ti.size))) (h - l) (c - l)) ?_ (out_val hs hk) hr ?_
          · simp [execOp, ho, Instr.sliceAt, Instr.slice, run_und hd, he, hb, run_size hti]
          · simp only [Rep]
            have hlen : (es.drop l).length = es.length - l := by simp only [List.length_drop]
            refine ⟨_, _, rfl, by rw [hlen]; omega, by rw [hlen]; omega, by rw [hlen]; omega, fun cs hcs => h5 cs (List.mem_of_mem_drop hcs), ?_⟩
            by_cases hz : es.length - l = 0
            · exact .inl (List.eq_nil_of_length_eq_zero (by omega))
            · refine .inr ?_
              rcases h6 with h6 | ⟨b, off, hA, hb1, hm, hrow⟩
              · subst h6; simp at hz
              · refine ⟨b, off + l * ti.size, ?_, hb1, hm, RepRow.drop _ _ _ _ _ hrow⟩
                rw [if_neg (by omega), hA]
                simp [add_plain]
        · cases hs
      · cases hs
    · cases hs
  · rename_i r off len hsx
    rw [hsx] at h1
    split at hs
    · rename_i t' s' frz es hrow
      split at hs
      · rename_i hss
        subst hss
        split at hs
        · rename_i l h hl hh
          split at hs
          · rename_i hle
            simp only [Rep] at h1
            obtain ⟨c, A, hc, h3, h4, he, hA⟩ := h1
            obtain ⟨h5, arr, fz, b1, b2, b3, b4, b5, b6, b7, b8, b9⟩ := repr_row hr hrow hc
            have hb := run_bounds (P := P) true len (c.cap - off) hf hlo hhi hl hh hle.1 (by omega)
            refine val_ok (x := .slice (if c.cap - off = l then A else A.map (·.add (l * ti.size))) (h - l) (c.cap - off - l)) ?_ (out_val hs hk) hr ?_
            · simp [execOp, ho, Instr.sliceAt, Instr.slice, run_und hd, he, hb, run_size hti]
            · simp only [Rep]
              refine ⟨c, _, hc, by omega, h4, by rw [Nat.sub_sub], fun hlt => ?_⟩
              rw [if_neg (by omega), hA (by omega)]
              simp [add_plain, ← h5, Nat.add_mul]
          · cases hs
        · cases hs
      · cases hs
    · cases hs
  · cases hs

theorem zero_sound {t : TypeId} {cs : List AV} (hz : zeroOf P t = some cs) : ∃ i z, P.info? t = some i ∧ i.zero = some z ∧ z.cells.size = i.size ∧ (∀ μ M w, RepVals μ M w cs z.cells.toList) ∧ (∀ x ∈ z.cells.toList, one x = true) ∧ cs.length = i.size := by
  unfold zeroOf at hz
  split at hz
  · rename_i i hi
    split at hz
    · rename_i z hzz
      split at hz
      · rename_i hc
        simp only [Bool.and_eq_true, decide_eq_true_eq] at hc
        cases hz
        have hall : z.cells.toList.all okV1 = true := by
          have := hc.1
          cases z <;> simp_all [okV, Value.cells]
        refine ⟨i, z, hi, hzz, hc.2, fun μ M w => (repVals_ofV1 μ M w _ hall).1, (repVals_ofV1 (fun _ => none) (fun _ => False) default _ hall).2, ?_⟩
        rw [List.length_map, Array.length_toList, hc.2]
      · cases hz
    · cases hz
  · cases hz

theorem fill_sound {M} (place : Nat → Option (Nat × Nat)) : ∀ (ps : List (Nat × Operand)) (ls : List (Nat × Nat × LX)) (cs : List AV) (arr : Array Value) (res : List AV),
    FrRep μ M w fr a → (∀ (k : Nat) (p : Nat × Operand), ps[k]? = some p → ∃ l, ls[k]? = some l ∧ place p.1 = some (l.1, l.2.1) ∧ lowerX p.2 = some l.2.2) → ls.length = ps.length →
    RepVals μ M w cs arr.toList → (∀ x ∈ arr.toList, one x = true) → fillA fr cs ls = some res →
    ∃ arr', Instr.fill place arr (ps.map fun p => (p.1, a.eval p.2)) = some arr' ∧ RepVals μ M w res arr'.toList ∧ ∀ x ∈ arr'.toList, one x = true
  | [], ls, cs, arr, res, hf, hp, hl, hc, h1, hfill => by
    have : ls = [] := List.eq_nil_of_length_eq_zero hl
    subst this
    simp only [fillA, Option.some.injEq] at hfill
    subst hfill
    exact ⟨arr, rfl, hc, h1⟩
  | p :: ps, ls, cs, arr, res, hf, hp, hl, hc, h1, hfill => by
    match ls, hl with
    | (off, n, lx) :: ls, hl =>
      obtain ⟨l, e1, e2, e3⟩ := hp 0 p rfl
      simp only [List.getElem?_cons_zero, Option.some.injEq] at e1
      subst e1
      simp only [fillA] at hfill
      split at hfill
      · rename_i new hnew
        split at hfill
        · rename_i hn
          split at hfill
          · rename_i hle
            obtain ⟨g1, g2⟩ := cellsOf_sound (lowerX_sound hf e3) hnew
            have hsz : (a.eval p.2).cells.size = n := by rw [← hn, ← g1.length, Array.length_toList]
            have hal : arr.size = cs.length := by rw [← hc.length, Array.length_toList]
            have hfold : (a.eval p.2).cells.zipIdx.foldl (fun cs (c, j) => cs.setIfInBounds (off + j) c) arr = asplice arr off (a.eval p.2).cells.toList := by
              have key : ∀ (vs : List Value) (k : Nat) (arr : Array Value), (vs.zipIdx k).foldl (fun cs (c, j) => cs.setIfInBounds (off + j) c) arr = asplice arr (off + k) vs := by
                intro vs
                induction vs with
                | nil => intro k arr; rfl
                | cons v vs ih => intro k arr; simp only [List.zipIdx_cons, List.foldl_cons, asplice]; rw [ih]; rfl
              have := key (a.eval p.2).cells.toList 0 arr
              rw [← Array.foldl_toList, Array.toList_zipIdx]
              simpa using this
            obtain ⟨arr', r1, r2, r3⟩ := fill_sound place ps ls (splice cs off new) (asplice arr off (a.eval p.2).cells.toList) res hf (fun k q hq => by simpa using hp (k + 1) q (by simpa using hq)) (by simpa using hl)
              (RepVals.splice off hc g1) (one_asplice _ _ _ h1 g2) hfill
            refine ⟨arr', ?_, r2, r3⟩
            simp only [List.map_cons, Instr.fill, e2]
            rw [if_neg (by simp only [hsz, hal, ne_eq, not_true_eq_false, decide_false, Bool.false_or, decide_eq_true_eq]; omega)]
            rw [hfold]; exact r1
          · cases hfill
        · cases hfill
      · cases hfill

theorem lowerParts_spec {fields : Array Field} : ∀ (ps : List (Nat × Operand)) (ls : List (Nat × Nat × LX)), lowerParts P fields ps = some ls →
    ls.length = ps.length ∧ ∀ (k : Nat) (p : Nat × Operand), ps[k]? = some p → ∃ l f ti, ls[k]? = some l ∧ fields[p.1]? = some f ∧ P.info? f.type = some ti ∧ l.1 = f.offset ∧ l.2.1 = ti.size ∧ lowerX p.2 = some l.2.2
  | [], ls, h => by simp only [lowerParts, Option.some.injEq] at h; subst h; simp
  | (i, x) :: ps, ls, h => by
    simp only [lowerParts] at h
    split at h
    · rename_i f b l hf hx hl
      split at h
      · rename_i ti hti
        cases h
        obtain ⟨h1, h2⟩ := lowerParts_spec ps l hl
        refine ⟨by simp [h1], fun k p hp => ?_⟩
        cases k with
        | zero => simp only [List.getElem?_cons_zero, Option.some.injEq] at hp; subst hp; exact ⟨_, f, ti, rfl, hf, hti, rfl, rfl, hx⟩
        | succ k => simpa using h2 k p (by simpa using hp)
      · cases h
    · cases h

end
end Go.Proofs.YtajbeippbabhhaaGreatDoor.Eng

namespace Go.Proofs.YtajbeippbabhhaaGreatDoor.Eng
open Go
section
variable {P : Program} {o : Oper} {a : Act} {μ : Mu} {S : Store} {w : World} {K : AV → Store → Prop} {E : AV → Store → Prop} {fr : Fr} {out : Out}

theorem run_places : ∀ (fs : List Field), (fs.all fun f => (P.info? f.type).isSome) = true →
    (fs.mapM fun f => do pure (f.offset, ← sizeOf f.type) : Sem (List (Nat × Nat))).run P w = .ok (fs.map fun f => (f.offset, P.cellsOf f.type)) w
  | [], _ => by simp
  | f :: fs, h => by
    simp only [List.all_cons, Bool.and_eq_true] at h
    obtain ⟨i, hi⟩ := Option.isSome_iff_exists.1 h.1
    have ih := run_places fs h.2
    simp only [List.mapM_cons, Sem.run_bind, run_size hi, Result.andThen_ok, Sem.run_pure, List.map_cons]
    rw [ih]
    simp [Program.cellsOf, hi]

theorem sound_build {t : TypeId} {ps : Array (Nat × Operand)} {fs : Array Field} {z : List AV} {ls : List (Nat × Nat × LX)} (ho : o.op = .build t ps) (hr : Repr μ S w) (hf : FrRep μ (Mut μ S) w fr a)
    (hd : P.underlying t = some (.struct fs)) (hz : zeroOf P t = some z) (hall : fs.toList.all (fun f => (P.info? f.type).isSome) = true) (hl : lowerParts P fs ps.toList = some ls)
    (hs : stepOp P fr S (.build z ls) = some out) (hk : OutK P K E S out) : OpOk P o a μ S w K E := by
  obtain ⟨i, zv, hi, hzz, hsz, hrv, hone, hlen⟩ := zero_sound hz
  obtain ⟨hll, hsp⟩ := lowerParts_spec ps.toList ls hl
  simp only [stepOp] at hs
  obtain ⟨res, hres, rfl⟩ := out_map hs
  obtain ⟨arr', h1, h2, h3⟩ := fill_sound (fun (k : Nat) => (fs.toList.map fun f => (f.offset, P.cellsOf f.type))[k]?) ps.toList ls z zv.cells res hf (fun k p hp => by
    obtain ⟨l, f, ti, e1, e2, e3, e4, e5, e6⟩ := hsp k p hp
    refine ⟨l, e1, ?_, e6⟩
    have : fs.toList[p.1]? = some f := by simpa using e2
    simp [this, Program.cellsOf, e3, e4, e5]) hll (hrv _ _ _) hone hres
  refine val_ok (x := .agg arr') ?_ hk hr (by simp only [Rep]; exact ⟨arr', rfl, h2, h3⟩)
  have hpl := run_places (P := P) (w := w) fs.toList hall
  have hpl' : (fs.mapM fun f => do pure (f.offset, ← sizeOf f.type) : Sem (Array (Nat × Nat))).run P w = .ok (fs.toList.map fun f => (f.offset, P.cellsOf f.type)).toArray w := by
    rw [Array.mapM_eq_mapM_toList]
    simp only [Sem.run_map, hpl, Result.andThen_ok]
  have hfun : ((fs.toList.map fun f => (f.offset, P.cellsOf f.type)).toArray[·]?) = fun (k : Nat) => (fs.toList.map fun f => (f.offset, P.cellsOf f.type))[k]? := by funext k; simp
  have hps : (ps.map fun (i, x) => (i, a.eval x)).toList = ps.toList.map fun p => (p.1, a.eval p.2) := by simp
  have key : (Instr.build t (ps.map fun (i, x) => (i, a.eval x))).run P w = .ok (.agg arr') w := by
    unfold Instr.build
    simp only [Sem.run_bind, zeroValue, run_info hi, hzz, Result.andThen_ok, Sem.run_pure, run_und hd]
    rw [hpl']
    simp only [Result.andThen_ok]
    rw [hfun, hps, h1]
    rfl
  simp only [execOp, ho, Sem.run_bind, key, Result.andThen_ok, Sem.run_pure]

theorem lowerArr_spec {n : Nat} : ∀ (ps : List (Nat × Operand)) (ls : List (Nat × Nat × LX)), lowerArr n ps = some ls →
    ls.length = ps.length ∧ ∀ (k : Nat) (p : Nat × Operand), ps[k]? = some p → ∃ l, ls[k]? = some l ∧ l.1 = p.1 * n ∧ l.2.1 = n ∧ lowerX p.2 = some l.2.2
  | [], ls, h => by simp only [lowerArr, Option.some.injEq] at h; subst h; simp
  | (i, x) :: ps, ls, h => by
    simp only [lowerArr] at h
    split at h
    · rename_i b l hx hl
      cases h
      obtain ⟨h1, h2⟩ := lowerArr_spec ps l hl
      refine ⟨by simp [h1], fun k p hp => ?_⟩
      cases k with
      | zero => simp only [List.getElem?_cons_zero, Option.some.injEq] at hp; subst hp; exact ⟨_, rfl, rfl, rfl, hx⟩
      | succ k => simpa using h2 k p (by simpa using hp)
    · cases h

theorem sound_buildA {t e : TypeId} {n : Nat} {ti : TypeInfo} {ps : Array (Nat × Operand)} {z : List AV} {ls : List (Nat × Nat × LX)} (ho : o.op = .build t ps) (hr : Repr μ S w) (hf : FrRep μ (Mut μ S) w fr a)
    (hd : P.underlying t = some (.array n e)) (hz : zeroOf P t = some z) (he : P.info? e = some ti) (hl : lowerArr ti.size ps.toList = some ls)
    (hs : stepOp P fr S (.build z ls) = some out) (hk : OutK P K E S out) : OpOk P o a μ S w K E := by
  obtain ⟨i, zv, hi, hzz, hsz, hrv, hone, hlen⟩ := zero_sound hz
  obtain ⟨hll, hsp⟩ := lowerArr_spec ps.toList ls hl
  simp only [stepOp] at hs
  obtain ⟨res, hres, rfl⟩ := out_map hs
  obtain ⟨arr', h1, h2, h3⟩ := fill_sound (fun (k : Nat) => some (k * ti.size, ti.size)) ps.toList ls z zv.cells res hf (fun k p hp => by
    obtain ⟨l, e1, e2, e3, e4⟩ := hsp k p hp
    exact ⟨l, e1, by rw [e2, e3], e4⟩) hll (hrv _ _ _) hone hres
  refine val_ok (x := .agg arr') ?_ hk hr (by simp only [Rep]; exact ⟨arr', rfl, h2, h3⟩)
  have hps : (ps.map fun (i, x) => (i, a.eval x)).toList = ps.toList.map fun p => (p.1, a.eval p.2) := by simp
  have key : (Instr.build t (ps.map fun (i, x) => (i, a.eval x))).run P w = .ok (.agg arr') w := by
    unfold Instr.build
    simp only [Sem.run_bind, zeroValue, run_info hi, hzz, Result.andThen_ok, Sem.run_pure, run_und hd, run_size he]
    rw [hps, h1]
    rfl
  simp only [execOp, ho, Sem.run_bind, key, Result.andThen_ok, Sem.run_pure]

theorem lowerRow_spec : ∀ (ps : List (Nat × Operand)) (i : Nat) (ls : List LX), lowerRow i ps = some ls →
    ls.length = ps.length ∧ ∀ (k : Nat) (p : Nat × Operand), ps[k]? = some p → p.1 = i + k ∧ ∃ l, ls[k]? = some l ∧ lowerX p.2 = some l
  | [], i, ls, h => by simp only [lowerRow, Option.some.injEq] at h; subst h; simp
  | (j, x) :: ps, i, ls, h => by
    simp only [lowerRow] at h
    split at h
    · rename_i hj
      split at h
      · rename_i b l hx hl
        cases h
        obtain ⟨h1, h2⟩ := lowerRow_spec ps (i + 1) l hl
        refine ⟨by simp [h1], fun k p hp => ?_⟩
        cases k with
        | zero => simp only [List.getElem?_cons_zero, Option.some.injEq] at hp; subst hp; exact ⟨by simpa using hj, b, rfl, hx⟩
        | succ k =>
          obtain ⟨g1, g2⟩ := h2 k p (by simpa using hp)
          exact ⟨by omega, by simpa using g2⟩
      · cases h
    · cases h

theorem rowsA_spec {s : Nat} : ∀ (ls : List LX) (es : List (List AV)), rowsA s fr ls = some es → es.length = ls.length ∧ (∀ e ∈ es, e.length = s) ∧ ∀ (k : Nat) (l : LX), ls[k]? = some l → ∃ cs, es[k]? = some cs ∧ cellsOf (ev fr l) = some cs
  | [], es, h => by simp only [rowsA, Option.some.injEq] at h; subst h; simp
  | l :: ls, es, h => by
    simp only [rowsA] at h
    split at h
    · rename_i cs hcs
      split at h
      · rename_i hlen
        split at h
        · rename_i l' hl'
          cases h
          obtain ⟨h1, h2, h3⟩ := rowsA_spec ls l' hl'
          refine ⟨by simp [h1], by simpa using ⟨hlen, h2⟩, fun k x hx => ?_⟩
          cases k with
          | zero => simp only [List.getElem?_cons_zero, Option.some.injEq] at hx; subst hx; exact ⟨cs, rfl, hcs⟩
          | succ k => simpa using h3 k x (by simpa using hx)
        · cases h
      · cases h
    · cases h

/-- A row that is filled from its first element to its last: what `Instr.fill` lays. -/
theorem fillRow_sound {M} (s : Nat) : ∀ (ps : List (Nat × Operand)) (ls : List LX) (es : List (List AV)) (i0 : Nat) (done : List Value) (dcs : List AV) (arr : Array Value),
    FrRep μ M w fr a → lowerRow i0 ps = some ls → rowsA s fr ls = some es → arr.toList.take (i0 * s) = done → RepVals μ M w dcs done → (∀ x ∈ done, one x = true) → arr.size = (i0 + ps.length) * s →
    ∃ arr', Instr.fill (fun i => some (i * s, s)) arr (ps.map fun p => (p.1, a.eval p.2)) = some arr' ∧ RepVals μ M w (dcs ++ es.flatten) arr'.toList ∧ ∀ x ∈ arr'.toList, one x = true
  | [], ls, es, i0, done, dcs, arr, hf, hl, he, hd, hr, h1, hsz => by
    simp only [lowerRow, Option.some.injEq] at hl; subst hl
    simp only [rowsA, Option.some.injEq] at he; subst he
    refine ⟨arr, rfl, ?_, ?_⟩
    · have : arr.toList = done := by rw [← hd, List.take_of_length_le]; rw [Array.length_toList]; simp at hsz; omega
      simpa [this] using hr
    · have : arr.toList = done := by rw [← hd, List.take_of_length_le]; rw [Array.length_toList]; simp at hsz; omega
      rw [this]; exact h1
  | (j, x) :: ps, ls, es, i0, done, dcs, arr, hf, hl, he, hd, hr, h1, hsz => by
    simp only [lowerRow] at hl
    split at hl
    · rename_i hj
      subst hj
      split at hl
      · rename_i b l hx hl'
        cases hl
        simp only [rowsA] at he
        split at he
        · rename_i cs hcs
          split at he
          · rename_i hlen
            split at he
            · rename_i es' hes'
              cases he
              obtain ⟨g1, g2⟩ := cellsOf_sound (lowerX_sound hf hx) hcs
              have hvs : (a.eval x).cells.size = s := by rw [← hlen, ← g1.length, Array.length_toList]
              have hvl : (a.eval x).cells.toList.length = s := by rw [Array.length_toList, hvs]
              simp only [List.length_cons] at hsz
              have hsz' : arr.size = j * s + s + ps.length * s := by rw [hsz, Nat.add_mul, Nat.succ_mul]; omega
              have hfold : (a.eval x).cells.zipIdx.foldl (fun cs (c, i) => cs.setIfInBounds (j * s + i) c) arr = asplice arr (j * s) (a.eval x).cells.toList := by
                have key : ∀ (vs : List Value) (k : Nat) (arr : Array Value), (vs.zipIdx k).foldl (fun cs (c, i) => cs.setIfInBounds (j * s + i) c) arr = asplice arr (j * s + k) vs := by
                  intro vs
                  induction vs with
                  | nil => intro k arr; rfl
                  | cons v vs ih => intro k arr; simp only [List.zipIdx_cons, List.foldl_cons, asplice]; rw [ih]; rfl
                have := key (a.eval x).cells.toList 0 arr
                rw [← Array.foldl_toList, Array.toList_zipIdx]
                simpa using this
              have htake : (asplice arr (j * s) (a.eval x).cells.toList).toList.take ((j + 1) * s) = done ++ (a.eval x).cells.toList := by
                apply List.ext_getElem?
                intro n
                have e1 : (j + 1) * s = j * s + s := Nat.succ_mul _ _
                have hdl : done.length = j * s := by rw [← hd, List.length_take, Array.length_toList]; omega
                rw [List.getElem?_take, e1]
                by_cases hn : n < j * s + s
                · rw [if_pos hn]
                  rw [Array.getElem?_toList]
                  by_cases hn2 : n < j * s
                  · rw [asplice_get _ _ _ _ (.inl hn2), List.getElem?_append_left (by omega), ← hd, List.getElem?_take, if_pos hn2, Array.getElem?_toList]
                  · rw [List.getElem?_append_right (by omega), hdl]
                    have : ∀ (vs : List Value) (arr : Array Value) (k m : Nat), k + vs.length ≤ arr.size → m < vs.length → (asplice arr k vs)[k + m]? = vs[m]? := by
                      intro vs
                      induction vs with
                      | nil => intro arr k m _ h; simp at h
                      | cons v vs ih =>
                        intro arr k m hk hm
                        simp only [asplice]
                        simp only [List.length_cons] at hk hm
                        cases m with
                        | zero =>
                          rw [asplice_get _ _ _ _ (.inl (by omega))]
                          simp [show k < arr.size by omega]
                        | succ m =>
                          have := ih (arr.setIfInBounds k v) (k + 1) m (by simp; omega) (by omega)
                          rw [show k + (m + 1) = k + 1 + m by omega, this]
                          simp
                    have h3 := this (a.eval x).cells.toList arr (j * s) (n - j * s) (by omega) (by omega)
                    rw [show j * s + (n - j * s) = n by omega] at h3
                    exact h3
                · rw [if_neg hn, List.getElem?_eq_none (by simp only [List.length_append]; omega)]
              obtain ⟨arr', r1, r2, r3⟩ := fillRow_sound s ps l es' (j + 1) _ (dcs ++ cs) (asplice arr (j * s) (a.eval x).cells.toList) hf hl' hes' htake (hr.append g1)
                (fun y hy => by rcases List.mem_append.1 hy with h | h; exact h1 y h; exact g2 y h) (by rw [size_asplice, hsz]; congr 1; omega)
              refine ⟨arr', ?_, by simpa [List.append_assoc] using r2, r3⟩
              simp only [List.map_cons, Instr.fill]
              rw [if_neg (by simp only [hvs, ne_eq, not_true_eq_false, decide_false, Bool.false_or, decide_eq_true_eq]; omega)]
              rw [hfold]; exact r1
            · cases he
          · cases he
        · cases he
      · cases hl
    · cases hl

theorem repRow_of_block {M} {b : Nat} {arr : Array Value} {t : TypeId} {fz : Nat × Nat} (h : w.heap[b]? = some (.cells arr t fz)) (hone : ∀ x ∈ arr.toList, one x = true) (s : Nat) :
    ∀ (es : List (List AV)) (off : Nat) (vs : List Value), (∀ e ∈ es, e.length = s) → (∀ j, j < vs.length → arr.toList[off + j]? = vs[j]?) → RepVals μ M w es.flatten vs → RepRow μ M w s es b off
  | [], off, vs, _, _, _ => by simp only [RepRow]
  | e :: es, off, vs, hw, hv, hr => by
    simp only [RepRow]
    have he := hw e (by simp)
    simp only [List.flatten_cons] at hr
    have h1 := hr.take e.length
    have h2 := hr.drop e.length
    rw [List.take_left] at h1
    rw [List.drop_left] at h2
    have hl := hr.length
    simp only [List.length_append] at hl
    refine ⟨repCells_of_block h hone e off (vs.take e.length) (fun j hj => ?_) h1, repRow_of_block h hone s es (off + s) (vs.drop e.length) (fun x hx => hw x (by simp [hx])) (fun j hj => ?_) h2⟩
    · simp only [List.length_take] at hj
      rw [List.getElem?_take, if_pos (by omega)]
      exact hv j (by omega)
    · simp only [List.length_drop] at hj
      rw [List.getElem?_drop, ← hv (e.length + j) (by omega), he, Nat.add_assoc]

/-- A block that nobody writes. -/
theorem new_sl (hr : Repr μ S w) (t : TypeId) {s : Nat} {es : List (List AV)} {arr : Array Value} (hw : ∀ e ∈ es, e.length = s) (hv : RepVals μ (Mut μ S) w es.flatten arr.toList) (h1 : ∀ x ∈ arr.toList, one x = true) (hlen : es.length ≤ lenMax) :
    Repr μ S { w with heap := w.heap.push (.cells arr t) } ∧ Keeps μ (Mut μ S) w μ (Mut μ S) { w with heap := w.heap.push (.cells arr t) } ∧
      Rep μ (Mut μ S) { w with heap := w.heap.push (.cells arr t) } (.sl s es es.length) (.slice (some ⟨w.heap.size, 0, none⟩) es.length es.length) := by
  obtain ⟨h2, h3⟩ := hr.world (w' := { w with heap := w.heap.push (.cells arr t) }) (by simp) (fun b hb => by
    show (w.heap.push _)[b]? = _
    rw [Array.getElem?_push, if_neg (by omega)]) rfl rfl rfl
  refine ⟨h2, h3, ?_⟩
  simp only [Rep]
  refine ⟨_, _, rfl, Nat.le_refl _, Nat.le_refl _, hlen, hw, .inr ⟨w.heap.size, 0, rfl, by simp, fun m => ?_, ?_⟩⟩
  · have := hr.mut_lt m; omega
  · exact repRow_of_block (w := { w with heap := w.heap.push (.cells arr t) }) (b := w.heap.size) (arr := arr) (t := t) (fz := (0, 0)) (by simp) h1 s es 0 arr.toList hw (by simp) (RepVals.keep h3 _ _ hv)

theorem sound_bslice {t e : TypeId} {len : Nat} {ps : Array (Nat × Operand)} {ls : List LX} {i : TypeInfo} (ho : o.op = .buildSlice t len ps) (hr : Repr μ S w) (hf : FrRep μ (Mut μ S) w fr a)
    (hd : P.underlying t = some (.slice e)) (hi : P.info? e = some i) (hl : lowerRow 0 ps.toList = some ls) (hc : ls.length = len ∧ len * i.size ≤ 16777216 ∧ (zeroOf P e).isSome ∧ 0 < len ∧ 0 < i.size)
    (hs : stepOp P fr S (.bslice e i.size ls) = some out) (hk : OutK P K E S out) : OpOk P o a μ S w K E := by
  obtain ⟨c1, c2, c3, c4, c5⟩ := hc
  obtain ⟨z, hz⟩ := Option.isSome_iff_exists.1 c3
  obtain ⟨i', zv, hi', hzz, hsz, hrv, hone, hlen⟩ := zero_sound hz
  rw [hi] at hi'; cases hi'
  simp only [stepOp] at hs
  obtain ⟨es, hes, rfl⟩ := out_map hs
  obtain ⟨g1, g2, g3⟩ := rowsA_spec ls es hes
  obtain ⟨q1, q2⟩ := lowerRow_spec _ _ _ hl
  have hes' : es.length = len := by omega
  obtain ⟨arr', r1, r2, r3⟩ := fillRow_sound i.size ps.toList ls es 0 [] [] ((Array.range (len * i.size)).map (zv.cells[· % zv.cells.size]!)) hf hl hes (by simp) (by simp [RepVals]) (by simp)
    (by simp only [Array.size_map, Array.size_range, Nat.zero_add]; rw [← q1, c1])
  simp only [List.nil_append] at r2
  obtain ⟨h2, h3, h4⟩ := new_sl hr e g2 r2 r3 (by unfold lenMax; have := Nat.le_mul_of_pos_right len c5; omega)
  refine st_ok ?_ hk h2 h3 h4
  have hne : ¬ (len * i.size = 0) := by have := Nat.mul_pos c4 c5; omega
  have hps : (ps.map fun (i, x) => (i, a.eval x)).toList = ps.toList.map fun p => (p.1, a.eval p.2) := by simp
  have key : (Instr.buildSlice t len (ps.map fun (i, x) => (i, a.eval x))).run P w = .ok (.slice (some ⟨w.heap.size, 0, none⟩) len len) { w with heap := w.heap.push (.cells arr' e) } := by
    unfold Instr.buildSlice
    simp only [Sem.run_bind, run_und hd, run_size hi, Result.andThen_ok, Sem.run_ite, Sem.run_pure]
    rw [if_neg (by omega)]
    simp only [Sem.run_pure, Result.andThen_ok, if_neg hne, zeroValue, Sem.run_bind, run_info hi, hzz, hps]
    rw [r1]
    simp [newRow, newObj, Sem.run]
  rw [hes']
  simp only [execOp, ho, Sem.run_bind, key, Result.andThen_ok, Sem.run_pure]
end
end Go.Proofs.YtajbeippbabhhaaGreatDoor.Eng

namespace Go.Proofs.YtajbeippbabhhaaGreatDoor.Eng
open Go
section
variable {P : Program} {o : Oper} {a : Act} {μ : Mu} {S : Store} {w : World} {K : AV → Store → Prop} {E : AV → Store → Prop} {fr : Fr} {out : Out}

/-- A new row of the store: its first cells are `vs`, behind them whatever. -/
theorem new_row (hr : Repr μ S w) (t : TypeId) (frz : Nat) {s : Nat} {es : List (List AV)} (hfrz : frz ≤ es.length) {arr : Array Value} {cap : Nat} {fz : Nat × Nat} (hcap : arr.size = cap * s) (hle : es.length ≤ cap) (hlen : es.length ≤ lenMax) (hcb : cap ≤ 2 * lenMax * lenMax)
    (hw : ∀ e ∈ es, e.length = s) (hv : RepVals μ (Mut μ S) w es.flatten (arr.toList.take (es.length * s))) (h1 : ∀ x ∈ arr.toList, one x = true) (hfz : ∀ i, i < arr.size → ¬ (fz.1 ≤ i ∧ i < fz.2)) :
    ∃ μ', Repr μ' (S.push (.row t s frz es)) { w with heap := w.heap.push (.cells arr t fz) } ∧ Keeps μ (Mut μ S) w μ' (Mut μ' (S.push (.row t s frz es))) { w with heap := w.heap.push (.cells arr t fz) } ∧
      Rep μ' (Mut μ' (S.push (.row t s frz es))) { w with heap := w.heap.push (.cells arr t fz) } (.own S.n 0 es.length) (.slice (some ⟨w.heap.size, 0, none⟩) es.length cap) := by
  obtain ⟨μ', h2, h3, h4⟩ := hr.new (.row t s frz es) s cap (.cells arr t fz) (fun μ' M' w' hw' hx hxs => ⟨rfl, arr, fz, by subst hw'; simp, hcap, hle, hlen, hw, hxs _ _ hv, h1, fun i _ hi => hfz i hi, hcb, hfrz⟩)
  refine ⟨μ', h3, h4, ?_⟩
  simp only [Rep]
  exact ⟨_, _, h2, by simpa using hle, hcb, rfl, by simp⟩

theorem sound_brow {t e : TypeId} {len : Nat} {ps : Array (Nat × Operand)} {ls : List LX} {i : TypeInfo} (ho : o.op = .buildSlice t len ps) (hr : Repr μ S w) (hf : FrRep μ (Mut μ S) w fr a)
    (hd : P.underlying t = some (.slice e)) (hi : P.info? e = some i) (hl : lowerRow 0 ps.toList = some ls) (hc : ls.length = len ∧ len * i.size ≤ 16777216 ∧ (zeroOf P e).isSome ∧ 0 < len ∧ 0 < i.size)
    (hs : stepOp P fr S (.brow e i.size ls) = some out) (hk : OutK P K E S out) : OpOk P o a μ S w K E := by
  obtain ⟨c1, c2, c3, c4, c5⟩ := hc
  obtain ⟨z, hz⟩ := Option.isSome_iff_exists.1 c3
  obtain ⟨i', zv, hi', hzz, hsz, hrv, hone, hlen⟩ := zero_sound hz
  rw [hi] at hi'; cases hi'
  simp only [stepOp] at hs
  obtain ⟨es, hes, rfl⟩ := out_map hs
  obtain ⟨g1, g2, g3⟩ := rowsA_spec ls es hes
  obtain ⟨q1, q2⟩ := lowerRow_spec _ _ _ hl
  have hes' : es.length = len := by omega
  obtain ⟨arr', r1, r2, r3⟩ := fillRow_sound i.size ps.toList ls es 0 [] [] ((Array.range (len * i.size)).map (zv.cells[· % zv.cells.size]!)) hf hl hes (by simp) (by simp [RepVals]) (by simp)
    (by simp only [Array.size_map, Array.size_range, Nat.zero_add]; rw [← q1, c1])
  simp only [List.nil_append] at r2
  have hflat : es.flatten.length = len * i.size := by
    have : ∀ (l : List (List AV)), (∀ e ∈ l, e.length = i.size) → l.flatten.length = l.length * i.size := by
      intro l
      induction l with
      | nil => simp
      | cons x l ih => intro h; simp only [List.flatten_cons, List.length_append, List.length_cons, ih fun e he => h e (by simp [he]), h x (by simp), Nat.succ_mul]; omega
    rw [this es g2, hes']
  have hasz : arr'.size = len * i.size := by have := r2.length; simp only [Array.length_toList] at this; omega
  obtain ⟨μ', h2, h3, h4⟩ := new_row hr e 0 (Nat.zero_le _) (s := i.size) (es := es) (arr := arr') (cap := len) (fz := (0, 0)) hasz (by omega) (by unfold lenMax; have := Nat.le_mul_of_pos_right len c5; omega) (by unfold lenMax; have := Nat.le_mul_of_pos_right len c5; omega)
    g2 (by rw [List.take_of_length_le (by rw [Array.length_toList, hasz, hes']; exact Nat.le_refl _)]; exact r2) r3 (by simp)
  refine st_ok ?_ hk h2 h3 h4
  have hne : ¬ (len * i.size = 0) := by have := Nat.mul_pos c4 c5; omega
  have hps : (ps.map fun (i, x) => (i, a.eval x)).toList = ps.toList.map fun p => (p.1, a.eval p.2) := by simp
  have key : (Instr.buildSlice t len (ps.map fun (i, x) => (i, a.eval x))).run P w = .ok (.slice (some ⟨w.heap.size, 0, none⟩) len len) { w with heap := w.heap.push (.cells arr' e) } := by
    unfold Instr.buildSlice
    simp only [Sem.run_bind, run_und hd, run_size hi, Result.andThen_ok, Sem.run_ite, Sem.run_pure]
    rw [if_neg (by omega)]
    simp only [Sem.run_pure, Result.andThen_ok, if_neg hne, zeroValue, Sem.run_bind, run_info hi, hzz, hps]
    rw [r1]
    simp [newRow, newObj, Sem.run]
  rw [hes']
  simp only [execOp, ho, Sem.run_bind, key, Result.andThen_ok, Sem.run_pure]

theorem made_rep (z : List AV) (zv : Array Value) {M} (hrv : RepVals μ M w z zv.toList) (hz : z.length = zv.size) : ∀ (n m : Nat), n ≤ m → RepVals μ M w (List.replicate n z).flatten ((madeCells zv (m * zv.size)).toList.take (n * zv.size)) := by
  intro n m hnm
  have key : ∀ n, RepVals μ M w (List.replicate n z).flatten (List.replicate n zv.toList).flatten := by
    intro n
    induction n with
    | zero => simp [RepVals]
    | succ n ih => simp only [List.replicate_succ, List.flatten_cons]; exact hrv.append ih
  have : (madeCells zv (m * zv.size)).toList.take (n * zv.size) = (List.replicate n zv.toList).flatten := by
    apply List.ext_getElem?
    intro i
    rw [List.getElem?_take]
    have hfl : ∀ n i, i < n * zv.size → (List.replicate n zv.toList).flatten[i]? = zv[i % zv.size]? := by
      intro n
      induction n with
      | zero => intro i hi; simp at hi
      | succ n ih =>
        intro i hi
        simp only [List.replicate_succ, List.flatten_cons]
        by_cases h : i < zv.size
        · rw [List.getElem?_append_left (by simpa using h), Nat.mod_eq_of_lt h]; simp
        · rw [List.getElem?_append_right (by simpa using h)]
          have h1 : (n + 1) * zv.size = n * zv.size + zv.size := Nat.succ_mul _ _
          have := ih (i - zv.toList.length) (by rw [Array.length_toList]; omega)
          rw [this]
          rw [Array.length_toList, ← Nat.mod_eq_sub_mod (by omega)]
    by_cases hi : i < n * zv.size
    · rw [if_pos hi, hfl n i hi]
      have hm : n * zv.size ≤ m * zv.size := Nat.mul_le_mul_right _ hnm
      have hpos : 0 < zv.size := by rcases Nat.eq_zero_or_pos zv.size with h | h; rw [h] at hi; simp at hi; exact h
      have hmod := Nat.mod_lt i hpos
      simp only [madeCells, Array.getElem?_toList, Array.getElem?_map, Array.getElem?_range]
      simp [show i < m * zv.size by omega, hmod]
    · rw [if_neg hi, List.getElem?_eq_none]
      have : (List.replicate n zv.toList).flatten.length = n * zv.size := by simp
      omega
  rw [this]
  exact key n

theorem made_one (zv : Array Value) (h : ∀ x ∈ zv.toList, one x = true) (hpos : 0 < zv.size) (m : Nat) : ∀ x ∈ (madeCells zv m).toList, one x = true := by
  intro x hx
  simp only [madeCells, Array.toList_map, List.mem_map] at hx
  obtain ⟨i, _, rfl⟩ := hx
  have hmod := Nat.mod_lt i hpos
  apply h
  simp [hmod]

theorem sound_mkslice {t e : TypeId} {n c : Operand} {ln lc : LX} {i : TypeInfo} {z : List AV} (ho : o.op = .makeSlice t n c) (hr : Repr μ S w) (hf : FrRep μ (Mut μ S) w fr a)
    (hd : P.underlying t = some (.slice e)) (hi : P.info? e = some i) (hz : zeroOf P e = some z) (hpos : 0 < i.size ∧ 0 < i.bytes) (hn : lowerX n = some ln) (hc : lowerX c = some lc)
    (hs : stepOp P fr S (.mkslice e i.size i.bytes z ln lc) = some out) (hk : OutK P K E S out) : OpOk P o a μ S w K E := by
  have h1 := lowerX_sound hf hn
  have h2 := lowerX_sound hf hc
  obtain ⟨i', zv, hi', hzz, hsz, hrv, hone, hlen⟩ := zero_sound hz
  rw [hi] at hi'; cases hi'
  simp only [stepOp] at hs
  split at hs
  · rename_i k n' hn'
    rw [hn'] at h1
    split at hs
    · rename_i k' c' hc'
      rw [hc'] at h2
      cases hs
      simp only [OutK, true_implies] at hk
      obtain ⟨⟨q1, q2, q3, q4⟩, hk⟩ := hk
      simp only [Rep] at h1 h2
      have hrun := run_make (P := P) w t e i zv hd hi hzz k k' n' c' q1 q2 (by unfold lenMax at q4; omega) (by unfold lenMax at q3; omega)
      have hzs : z.length = zv.cells.size := by omega
      have hsz' : zv.cells.size = i.size := hsz
      have hmr := made_rep (μ := μ) (w := w) z zv.cells (hrv μ (Mut μ S) w) hzs n'.toNat c'.toNat (by omega)
      rw [hsz'] at hmr
      obtain ⟨μ', g1, g2, g3⟩ := new_row hr e 0 (Nat.zero_le _) (s := i.size) (es := List.replicate n'.toNat z) (arr := madeCells zv.cells (c'.toNat * i.size)) (cap := c'.toNat) (fz := (0, 0)) (size_madeCells _ _) (by simp; omega) (by simp; unfold lenMax at q3 ⊢; omega) (by unfold lenMax at q3 ⊢; omega)
        (fun x hx => by rw [(List.mem_replicate.1 hx).2]; exact hlen) (by simpa using hmr) (made_one _ hone (by omega) _) (by simp)
      simp only [List.length_replicate] at g3
      refine st_ok ?_ hk g1 g2 g3
      simp only [execOp, ho, h1, h2, Sem.run_bind, hrun, Result.andThen_ok, Sem.run_pure]
      rfl
    · cases hs
  · cases hs

theorem sound_extr {x : Operand} {k : Nat} {l : LX} (ho : o.op = .extract x k) (hr : Repr μ S w) (hf : FrRep μ (Mut μ S) w fr a) (hx : lowerX x = some l)
    (hs : stepOp P fr S (.extr k l) = some out) (hk : OutK P K E S out) : OpOk P o a μ S w K E := by
  have h1 := lowerX_sound hf hx
  simp only [stepOp] at hs
  split at hs
  · rename_i vs hvs
    rw [hvs] at h1
    split at hs
    · rename_i v hv
      simp only [Rep] at h1
      obtain ⟨us, he, h2⟩ := h1
      obtain ⟨u, hu, hru⟩ := h2.at k v hv
      refine val_ok (x := u) ?_ (out_val hs hk) hr hru
      have hu' : us[k]? = some u := by simpa using hu
      simp [execOp, ho, Instr.extract, he, hu']
    · cases hs
  · cases hs

theorem elems_sound (hr : Repr μ S w) {x : AV} {v : Value} (h : Rep μ (Mut μ S) w x v) {s : Nat} {es : List (List AV)} (he : elems S x = some (s, es)) :
    ∃ A c, v = .slice A es.length c ∧ es.length ≤ c ∧ es.length ≤ lenMax ∧ (∀ e ∈ es, e.length = s) ∧
      (es = [] ∨ ∃ b off, A = some ⟨b, off, none⟩ ∧ ∃ vs : List Value, vs.length = es.length * s ∧ RepVals μ (Mut μ S) w es.flatten vs ∧ (∀ u ∈ vs, one u = true) ∧ ∀ j u, vs[j]? = some u → w.cell? ⟨b, off + j, none⟩ = some u) := by
  unfold elems at he
  split at he
  · rename_i s' es0 n'
    simp only [Option.some.injEq, Prod.mk.injEq] at he
    obtain ⟨rfl, he⟩ := he
    simp only [Rep] at h
    obtain ⟨A, c, h1, h2', h2, h3, h4, h5⟩ := h
    have hlen0 : es.length = n' := by rw [← he, List.length_take]; omega
    have h4 : ∀ e ∈ es, e.length = s' := fun e hm => h4 e (by rw [← he] at hm; exact List.mem_of_mem_take hm)
    refine ⟨A, c, by rw [hlen0]; exact h1, by omega, by omega, h4, ?_⟩
    rcases h5 with h5 | ⟨b, off, hA, hb, hm, hrow⟩
    · subst h5; refine .inl ?_; rw [← he]; simp
    · have hrow := RepRow.take _ _ _ _ n' hrow
      rw [he] at hrow
      refine .inr ⟨b, off, hA, ?_⟩
      have key : ∀ (es : List (List AV)) (off : Nat), (∀ e ∈ es, e.length = s') → RepRow μ (Mut μ S) w s' es b off → RepCells μ (Mut μ S) w es.flatten b off := by
        intro es
        induction es with
        | nil => intro off _ _; simp [RepCells]
        | cons e es ih =>
          intro off hw hr
          simp only [RepRow] at hr
          have h6 := ih (off + s') (fun x hx => hw x (by simp [hx])) hr.2
          have h7 : ∀ (xs ys : List AV) (off : Nat), RepCells μ (Mut μ S) w xs b off → RepCells μ (Mut μ S) w ys b (off + xs.length) → RepCells μ (Mut μ S) w (xs ++ ys) b off := by
            intro xs
            induction xs with
            | nil => intro ys off _ h; simpa using h
            | cons x xs ih2 =>
              intro ys off h1 h2
              simp only [RepCells, List.cons_append] at h1 ⊢
              exact ⟨h1.1, ih2 ys (off + 1) h1.2 (by simpa [Nat.add_assoc, Nat.add_comm 1] using h2)⟩
          simp only [List.flatten_cons]
          exact h7 e es.flatten off hr.1 (by rw [hw e (by simp)]; exact h6)
      obtain ⟨vs, a1, a2, a3, a4⟩ := load_of_cells (P := default) es.flatten b off (key es off h4 hrow)
      exact ⟨vs, by rw [a3, flatten_len es s' h4], a1, a2, a4⟩
  · simp only [Option.some.injEq, Prod.mk.injEq] at he
    obtain ⟨rfl, rfl⟩ := he
    simp only [Rep] at h
    exact ⟨none, 0, by simpa using h.1, Nat.le_refl _, by unfold lenMax; simp, by simp, .inl rfl⟩
  · rename_i l off len
    split at he
    · rename_i t s' frz es' hl
      split at he
      · rename_i hle
        simp only [Option.some.injEq, Prod.mk.injEq] at he
        obtain ⟨rfl, rfl⟩ := he
        simp only [Rep] at h
        obtain ⟨c, A, hc, h3, h4, he, hA⟩ := h
        obtain ⟨h5, arr, fz, b1, b2, b3, b4, b5, b6, b7, b8, b9⟩ := repr_row hr hl hc
        have hlen : ((es'.drop off).take len).length = len := by simp only [List.length_take, List.length_drop]; omega
        refine ⟨A, c.cap - off, by rw [hlen]; exact he, by rw [hlen]; omega, by rw [hlen]; omega, fun e he => by rw [← h5]; exact b5 e (List.mem_of_mem_drop (List.mem_of_mem_take he)), ?_⟩
        by_cases hz : len = 0
        · exact .inl (List.eq_nil_of_length_eq_zero (by omega))
        · refine .inr ⟨c.block, off * c.size, hA (by omega), ?_⟩
          have e1 : ∀ (k : Nat) (l : List (List AV)), (∀ e ∈ l, e.length = c.size) → (l.drop k).flatten = l.flatten.drop (k * c.size) := by
            intro k
            induction k with
            | zero => intro l _; simp
            | succ k ih =>
              intro l hw
              cases l with
              | nil => simp
              | cons e l =>
                have := hw e (by simp)
                have hk : (k + 1) * c.size = k * c.size + c.size := Nat.succ_mul _ _
                have e0 : e.drop (k * c.size + c.size) = [] := List.drop_of_length_le (by omega)
                rw [List.drop_succ_cons, ih l (fun x hx => hw x (by simp [hx])), List.flatten_cons, hk, List.drop_append, e0, this, Nat.add_sub_cancel, List.nil_append]
          have e2 : ∀ (k : Nat) (l : List (List AV)), (∀ e ∈ l, e.length = c.size) → (l.take k).flatten = l.flatten.take (k * c.size) := by
            intro k
            induction k with
            | zero => intro l _; simp
            | succ k ih =>
              intro l hw
              cases l with
              | nil => simp
              | cons e l =>
                have := hw e (by simp)
                have hk : (k + 1) * c.size = k * c.size + c.size := Nat.succ_mul _ _
                have e0 : e.take (k * c.size + c.size) = e := List.take_of_length_le (by omega)
                rw [List.take_succ_cons, List.flatten_cons, ih l (fun x hx => hw x (by simp [hx])), List.flatten_cons, hk, List.take_append, e0, this, Nat.add_sub_cancel]
          have hv := (b6.drop (off * c.size)).take (len * c.size)
          rw [← e1 off es' b5, ← e2 len (es'.drop off) (fun x hx => b5 x (List.mem_of_mem_drop hx))] at hv
          have hm1 : (off + len) * c.size ≤ es'.length * c.size := Nat.mul_le_mul_right _ hle
          have hm2 : es'.length * c.size ≤ arr.size := by rw [b2]; exact Nat.mul_le_mul_right _ b3
          rw [Nat.add_mul] at hm1
          refine ⟨_, ?_, hv, fun u hu => b7 u (List.mem_of_mem_take (List.mem_of_mem_drop (List.mem_of_mem_take hu))), fun j u hj => ?_⟩
          · rw [hlen, ← h5]
            simp only [List.length_take, List.length_drop, Array.length_toList]; omega
          · rw [cells_of_block b1]
            have hjl := get_lt hj
            simp only [List.length_take, List.length_drop, Array.length_toList] at hjl
            rw [List.getElem?_take, if_pos (by omega), List.getElem?_drop, List.getElem?_take, if_pos (by omega)] at hj
            simpa using hj
      · cases he
    · cases he
  · cases he
end
end Go.Proofs.YtajbeippbabhhaaGreatDoor.Eng

namespace Go.Proofs.YtajbeippbabhhaaGreatDoor.Eng
open Go
section
variable {P : Program} {o : Oper} {a : Act} {μ : Mu} {S : Store} {w : World} {K : AV → Store → Prop} {E : AV → Store → Prop} {fr : Fr} {out : Out}

theorem bytesOf_spec : ∀ (es : List (List AV)) (l : List UInt8), bytesOf es = some l → ∃ ns : List Int, es = ns.map (fun n => [AV.int .u8 n]) ∧ l = ns.map fun n => UInt8.ofNat n.toNat
  | [], l, h => by simp only [bytesOf, Option.some.injEq] at h; subst h; exact ⟨[], rfl, rfl⟩
  | e :: es, l, h => by
    unfold bytesOf at h
    split at h
    · rename_i h'; cases h'
    · rename_i n r he
      cases he
      split at h
      · rename_i l' hl'
        cases h
        obtain ⟨ns, h1, h2⟩ := bytesOf_spec es l' hl'
        exact ⟨n :: ns, by simp [h1], by simp [h2]⟩
      · cases h
    · cases h

theorem repVals_ints {M} : ∀ (ns : List Int) (vs : List Value), RepVals μ M w (ns.map (fun n => [AV.int .u8 n])).flatten vs → vs = ns.map (Value.int .u8)
  | [], vs, h => by simpa [RepVals] using h
  | n :: ns, vs, h => by
    simp only [List.map_cons, List.flatten_cons, List.cons_append, List.nil_append, RepVals, Rep] at h
    obtain ⟨v, vs', rfl, rfl, h2⟩ := h
    rw [repVals_ints ns vs' h2]; rfl

theorem sound_b2s {src dst e : TypeId} {x : Operand} {lx : LX} (ho : o.op = .convert src dst x) (hr : Repr μ S w) (hf : FrRep μ (Mut μ S) w fr a) (hx : lowerX x = some lx)
    (h1 : P.underlying src = some (.slice e)) (h2 : P.underlying dst = some .string) (he : P.underlying e = some (.int .u8)) (hs : stepOp P fr S (.cvt .b2s lx) = some out) (hk : OutK P K E S out) : OpOk P o a μ S w K E := by
  have h3 := lowerX_sound hf hx
  simp only [stepOp] at hs
  split at hs
  · rename_i s' es hes
    obtain ⟨l, hl, rfl⟩ := out_map hs
    simp only [OutK, true_implies, true_and] at hk
    obtain ⟨ns, rfl, rfl⟩ := bytesOf_spec es l hl
    obtain ⟨A, c, hv, q1, q2, q3, q4⟩ := elems_sound hr h3 hes
    have hlen : (ns.map fun n => UInt8.ofNat n.toNat).length ≤ strMax := by
      simp only [List.length_map] at q2 ⊢
      unfold lenMax at q2; unfold strMax; omega
    have hrep : Rep μ (Mut μ S) w (.str (ns.map fun n => UInt8.ofNat n.toNat)) (strV (ns.map fun n => UInt8.ofNat n.toNat)) := by simp only [Rep]; exact ⟨trivial, hlen⟩
    refine val_ok (x := strV (ns.map fun n => UInt8.ofNat n.toNat)) ?_ hk hr hrep
    have hrun : (convert src dst (a.eval x)).run P w = .ok (strV (ns.map fun n => UInt8.ofNat n.toNat)) w := by
      rw [hv]
      rcases q4 with q4 | ⟨b, off, hA, vs, hvl, hvr, hvo, hvc⟩
      · have hns : ns = [] := by simpa using q4
        subst hns
        simp only [List.map_nil, List.length_nil]
        cases A with
        | none => exact run_convert_bytes_nil w src e h1 he 0 c dst h2
        | some ad =>
          simp [convert, run_und h1, run_und h2, run_und he, Conv.bytesToString, loadCells, loadCellsFrom, strV]
          rfl
      · have hvs := repVals_ints ns vs hvr
        subst hvs
        rw [hA, List.length_map]
        have := run_convert_bytes_arg (P := P) w src e h1 he b off ns.length c ns rfl (fun i hi => by
          refine hvc i _ ?_
          rw [List.getElem?_map, List.getElem?_eq_getElem hi]
          simp [List.getD, List.getElem?_eq_getElem hi]) dst h2
        rw [this]
        rfl
    simp only [execOp, ho, Sem.run_bind, hrun, Result.andThen_ok, Sem.run_pure]
  · cases hs

theorem repVals_bytes {M} : ∀ (l : List UInt8), RepVals μ M w (byteRow l).flatten (l.map fun b => Value.int .u8 b.toNat)
  | [] => by simp [byteRow, RepVals]
  | b :: l => by
    have := repVals_bytes (M := M) l
    simp only [byteRow, List.map_cons, List.flatten_cons, List.cons_append, List.nil_append, RepVals, Rep] at this ⊢
    exact ⟨_, _, rfl, rfl, this⟩

theorem cap_bound (n old : Nat) (e : TypeId) (h : n ≤ lenMax) : grownCap w n old e ≤ 2 * lenMax * lenMax := by
  have h1 := grownCap_le_maxLen w n old e (by unfold maxLen; unfold lenMax at h; omega)
  unfold maxLen at h1
  unfold lenMax
  omega

theorem sound_s2b {src dst e : TypeId} {x : Operand} {lx : LX} (ho : o.op = .convert src dst x) (hr : Repr μ S w) (hf : FrRep μ (Mut μ S) w fr a) (hx : lowerX x = some lx)
    (h1 : P.underlying src = some .string) (h2 : P.underlying dst = some (.slice e)) (he : P.underlying e = some (.int .u8)) (hs : stepOp P fr S (.cvt (.s2b e) lx) = some out) (hk : OutK P K E S out) : OpOk P o a μ S w K E := by
  have h3 := lowerX_sound hf hx
  simp only [stepOp] at hs
  split at hs
  · rename_i s hsx
    rw [hsx] at h3
    cases hs
    simp only [OutK, true_implies] at hk
    obtain ⟨hl, hk⟩ := hk
    simp only [Rep] at h3
    have hrun := run_bytes_of_string (P := P) w src dst e ⟨s.toArray⟩ h1 h2 he
    simp only [strSize] at hrun
    have hge := grownCap_ge w s.length 0 e
    generalize hcap : grownCap w s.length 0 e = cap at hrun hge
    have hcb : cap ≤ 2 * lenMax * lenMax := by rw [← hcap]; exact cap_bound _ _ _ hl
    have hrow : (bytesRow ⟨s.toArray⟩ cap).toList = s.map (fun b => Value.int .u8 b.toNat) ++ List.replicate (cap - s.length) (.int .u8 0) := by
      simp [bytesRow, strSize]
    have hsz : (bytesRow ⟨s.toArray⟩ cap).size = cap := by
      rw [← Array.length_toList, hrow]; simp; omega
    obtain ⟨hr1, hk1⟩ := hr.world (w' := w.drew) (Nat.le_refl _) (fun _ _ => rfl) rfl rfl rfl
    have hbl : (byteRow s).length = s.length := by simp [byteRow]
    obtain ⟨μ', g1, g2, g3⟩ := new_row hr1 e 0 (Nat.zero_le _) (s := 1) (es := byteRow s) (arr := bytesRow ⟨s.toArray⟩ cap) (cap := cap) (fz := ((bytesRow ⟨s.toArray⟩ cap).size, (bytesRow ⟨s.toArray⟩ cap).size + 1)) (by rw [hsz]; omega) (by rw [hbl]; exact hge) (by rw [hbl]; exact hl) hcb
      (fun x hx => by simp only [byteRow, List.mem_map] at hx; obtain ⟨b, _, rfl⟩ := hx; rfl)
      (by rw [hrow, hbl, Nat.mul_one, List.take_left' (by simp)]; exact repVals_bytes s)
      (by rw [hrow]; intro x hx; rcases List.mem_append.1 hx with h | h
          · obtain ⟨b, _, rfl⟩ := List.mem_map.1 h; rfl
          · rw [(List.mem_replicate.1 h).2]; rfl)
      (fun i hi => by omega)
    rw [hbl] at g3
    refine st_ok ?_ hk g1 (hk1.trans g2) g3
    simp only [execOp, ho, h3.1, strV, Sem.run_bind, hrun, Result.andThen_ok, Sem.run_pure]
    rfl
  · cases hs
end
end Go.Proofs.YtajbeippbabhhaaGreatDoor.Eng

namespace Go.Proofs.YtajbeippbabhhaaGreatDoor.Eng
open Go
section
variable {P : Program} {o : Oper} {a : Act} {μ : Mu} {S : Store} {w : World} {K : AV → Store → Prop} {E : AV → Store → Prop} {fr : Fr} {out : Out}

theorem flatten_len' : ∀ (es : List (List AV)) (s : Nat), (∀ e ∈ es, e.length = s) → es.flatten.length = es.length * s := flatten_len

theorem one_cell {v : Value} (h : one v = true) : v.oneCell' = true := by cases v <;> first | rfl | cases h

/-- What is appended. -/
theorem src_of (hr : Repr μ S w) {y : AV} {v : Value} (h : Rep μ (Mut μ S) w y v) {str : Bool} {s : Nat} {ys : List (List AV)} (he : elemsA str S y = some (s, ys)) {u : TypeId} {size : Nat}
    (hu : if str then P.underlying u = some .string ∧ size = 1 else ∃ e', P.underlying u = some (.slice e')) (hs : ys = [] ∨ s = size) :
    ∃ vs : List Value, Src P size u v ys.length vs w ∧ (∀ y ∈ ys, y.length = s) ∧ RepVals μ (Mut μ S) w ys.flatten vs ∧ (∀ x ∈ vs, one x = true) := by
  cases str with
  | true =>
    simp only [if_true] at hu
    obtain ⟨hu, rfl⟩ := hu
    cases y with
    | str l =>
      simp only [elemsA, Option.some.injEq, Prod.mk.injEq] at he
      obtain ⟨rfl, rfl⟩ := he
      simp only [Rep] at h
      obtain ⟨rfl, hl⟩ := h
      have hsrc := Src.ofString (P := P) w hu ⟨l.toArray⟩
      have e1 : (⟨l.toArray⟩ : ByteArray).size = (byteRow l).length := by simp [ByteArray.size, byteRow]
      rw [e1] at hsrc
      refine ⟨_, hsrc, fun y hy => ?_, ?_, fun x hx => ?_⟩
      · simp only [List.mem_map] at hy; obtain ⟨b, _, rfl⟩ := hy; rfl
      · exact repVals_bytes (μ := μ) (w := w) (M := Mut μ S) l
      · simp only [byteCells, List.mem_map] at hx; obtain ⟨b, _, rfl⟩ := hx; rfl
    | _ => simp [elemsA] at he
  | false =>
    simp only [Bool.false_eq_true, if_false] at hu
    simp only [elemsA] at he
    obtain ⟨A, c, hv, q1, q2, q3, q4⟩ := elems_sound hr h he
    obtain ⟨e', hu⟩ := hu
    by_cases hys : ys = []
    · subst hys
      refine ⟨[], ?_, by simp, by simp [RepVals], by simp⟩
      rw [hv]
      cases A with
      | none => exact Src.ofNil w hu c
      | some a => exact Src.ofSlice w hu a 0 c [] (by simp) (by simp) (by simp)
    · rcases q4 with q4 | ⟨b, off, hA, vs, v1, v2, v3, v4⟩
      · exact absurd q4 hys
      · have hsz : s = size := by rcases hs with h | h; exact absurd h hys; exact h
        subst hsz
        refine ⟨vs, ?_, q3, v2, v3⟩
        rw [hv, hA]
        exact Src.ofSlice w hu _ _ c vs v1 (fun j u hj => by rw [add_plain]; exact v4 j u hj) fun u hu => one_cell (v3 u hu)

/-- `append(nil, ..)`. -/
theorem append_nil_new (hr : Repr μ S w) {t u ty e : TypeId} {i : TypeInfo} {z : Value} (hd : P.underlying t = some (.slice e)) (hi : P.info? e = some i) (hz : i.zero = some z) (hzs : z.cells.size = i.size) (hz1 : ∀ x ∈ z.cells.toList, one x = true) (hpos : 0 < i.bytes ∧ 0 < i.size)
    {ys : List (List AV)} (hne : ys ≠ []) {yv : Value} {vs : List Value} (hsrc : Src P i.size u yv ys.length vs w) (hw : ∀ y ∈ ys, y.length = i.size) (hv : RepVals μ (Mut μ S) w ys.flatten vs) (h1 : ∀ u ∈ vs, one u = true)
    (hb : ys.length * i.bytes ≤ 140737488355328) :
    ∃ x w' μ', (Builtin.append_ #[t, u] ty #[.slice none 0 0, yv]).run P w = .ok x w' ∧ Repr μ' (S.push (.row e i.size 0 ys)) w' ∧ Keeps μ (Mut μ S) w μ' (Mut μ' (S.push (.row e i.size 0 ys))) w' ∧
      Rep μ' (Mut μ' (S.push (.row e i.size 0 ys))) w' (.own S.n 0 ys.length) x := by
  have hl : vs.length = ys.length * i.size := hsrc.newsLen
  have hn : 0 < ys.length := List.length_pos_iff.2 hne
  have hle : ys.length ≤ 140737488355328 := Nat.le_trans (Nat.le_mul_of_pos_right _ hpos.1) hb
  have hrun := run_append_grow_src (P := P) w t u ty e i z hd hi hz none 0 0 [] (by simp [Builtin.firstCells]) yv ys.length vs hsrc (by omega) (by omega) (growslice_fits (by omega) (by simpa using hb))
  simp only [Nat.zero_add, List.nil_append] at hrun
  have hge := grownCap_ge w ys.length 0 e
  have hcb := cap_bound (w := w) ys.length 0 e (by unfold lenMax; omega)
  generalize grownCap w ys.length 0 e = cap at hrun hge hcb
  obtain ⟨hr1, hk1⟩ := hr.world (w' := w.drew) (Nat.le_refl _) (fun _ _ => rfl) rfl rfl rfl
  have hm : ys.length * i.size ≤ cap * i.size := Nat.mul_le_mul_right _ hge
  obtain ⟨μ', g1, g2, g3⟩ := new_row hr1 e 0 (Nat.zero_le _) (s := i.size) (es := ys) (arr := vs.toArray ++ Builtin.zeroCells z.cells (cap - ys.length)) (cap := cap) (fz := (0, 0))
    (by simp only [Array.size_append, size_zeroCells, hzs, List.size_toArray, hl, Nat.sub_mul]; omega) hge (by unfold lenMax; omega) hcb hw
    (by rw [Array.toList_append, ← hl]; simp only [List.take_left]; exact RepVals.keep hk1 _ _ hv)
    (by rw [Array.toList_append]; intro x hx; rcases List.mem_append.1 hx with h | h
        · exact h1 x h
        · simp only [Builtin.zeroCells, Array.toList_map, List.mem_map] at h
          obtain ⟨k, _, rfl⟩ := h
          apply hz1
          have hmod := Nat.mod_lt k (show 0 < z.cells.size by omega)
          simp [hmod])
    (by simp)
  exact ⟨_, _, μ', hrun, g1, hk1.trans g2, g3⟩

theorem sound_append {c : Call} {x y : Operand} {t u e : TypeId} {lx ly : LX} {i : TypeInfo} {z : Value} (ho : o.op = .call c) (hc : c = { callee := .builtin .append, args := #[x, y], argTypes := #[t, u] }) (hr : Repr μ S w) (hf : FrRep μ (Mut μ S) w fr a)
    (hx : lowerX x = some lx) (hy : lowerX y = some ly) {str : Bool} (hu : if str then P.underlying u = some .string ∧ i.size = 1 else ∃ e', P.underlying u = some (.slice e')) (hd : P.underlying t = some (.slice e)) (hi : P.info? e = some i) (hz : i.zero = some z) (hzs : z.cells.size = i.size ∧ 0 < i.bytes ∧ 0 < i.size) (hz1 : ∀ x ∈ z.cells.toList, one x = true)
    (hs : stepOp P fr S (.append str e i.size i.bytes lx ly) = some out) (hk : OutK P K E S out) : OpOk P o a μ S w K E := by
  have h1 := lowerX_sound hf hx
  have h2 := lowerX_sound hf hy
  have hexec : ∀ v w', (Builtin.append_ #[t, u] o.type #[a.eval x, a.eval y]).run P w = .ok v w' → (execOp a.eval o).run P w = .ok (.value v) w' := by
    intro v w' h
    subst hc
    simp [execOp, ho, resolve, invoke, builtin, h]
  simp only [stepOp] at hs
  split at hs
  · rename_i s' ys hys
    split at hs
    · rename_i hxx
      rw [hxx] at h1
      simp only [Rep] at h1
      rw [h1.1] at hexec
      split at hs
      · cases hs
        obtain ⟨vs, k1, k2, k3, k4⟩ := src_of (P := P) (u := u) (size := i.size) hr h2 hys hu (.inl rfl)
        have : vs = [] := List.eq_nil_of_length_eq_zero (by have := k1.newsLen; simpa using this)
        subst this
        exact val_ok (hexec _ _ (run_append_nothing w t u o.type e i hd hi none 0 0 (Nat.le_refl _) _ k1)) hk hr (by simp only [Rep]; exact ⟨trivial, rfl⟩)
      · rename_i y0 ys
        cases hs
        simp only [OutK, true_implies] at hk
        obtain ⟨⟨hs', hb⟩, hk⟩ := hk
        subst hs'
        obtain ⟨vs, k1, k2, k3, k4⟩ := src_of (P := P) (u := u) (size := i.size) hr h2 hys hu (.inr rfl)
        obtain ⟨xv, w', μ', g1, g2, g3, g4⟩ := append_nil_new (P := P) (ty := o.type) hr hd hi hz hzs.1 hz1 hzs.2 (ys := y0 :: ys) (by simp) k1 k2 k3 k4 (by simpa using hb)
        exact st_ok (hexec _ _ g1) hk g2 g3 g4
    · rename_i r len hxx
      rw [hxx] at h1
      split at hs
      · rename_i t' s0 frz es hrow
        cases hs
        simp only [OutK, true_implies] at hk
        obtain ⟨⟨ht, hs0, hss, hlen, hb⟩, hk⟩ := hk
        subst ht; subst hs0; subst hlen
        simp only [Rep] at h1
        obtain ⟨c, A, hc', h3, h4, he, hA⟩ := h1
        obtain ⟨h5, arr, fz, b1, b2, b3, b4, b5, b6, b7, b8, b9, b10⟩ := repr_row hr hrow hc'
        simp only [Nat.sub_zero] at he
        rw [he] at hexec
        have hle : es.length + ys.length ≤ 140737488355328 := Nat.le_trans (Nat.le_mul_of_pos_right _ hzs.2.1) hb
        by_cases hys0 : ys = []
        · subst hys0
          obtain ⟨vs, k1, k2, k3, k4⟩ := src_of (P := P) (u := u) (size := i.size) hr h2 hys hu (.inl rfl)
          have hv0 : vs = [] := List.eq_nil_of_length_eq_zero (by have := k1.newsLen; simpa using this)
          subst hv0
          have hrn := run_append_nothing (P := P) w t u o.type t' i hd hi A es.length c.cap b3 _ k1
          obtain ⟨μ', g1, g2, g3⟩ := hr.rename hrow hc'
          simp only [List.append_nil, List.length_nil, Nat.add_zero] at hk
          refine st_ok (hexec _ _ hrn) hk g2 g3 ?_
          simp only [Rep]
          exact ⟨c, A, g1, h3, h4, by simp, hA⟩
        · have hs' : s' = i.size := by rcases hss with h | h; exact absurd h hys0; exact h
          subst hs'
          obtain ⟨vs, k1, q3, v2, v3⟩ := src_of (P := P) (u := u) (size := i.size) hr h2 hys hu (.inr rfl)
          have v1 : vs.length = ys.length * i.size := k1.newsLen
          · generalize a.eval y = yv at *
            have hn : 0 < ys.length := List.length_pos_iff.2 hys0
            by_cases hfit : es.length + ys.length ≤ c.cap
            · -- in place
              have hA1 := hA (by omega)
              simp only [Nat.zero_mul] at hA1
              have hm : es.length * i.size + vs.length ≤ arr.size := by
                rw [b2, h5, v1, ← Nat.add_mul]; exact Nat.mul_le_mul_right _ hfit
              have hst := run_storeCells_blk (P := P) c.block t' fz vs (es.length * i.size) 0 arr w b1 (by simpa using hm) (fun j j1 j2 => b8 j (by
                have := Nat.mul_le_mul_right c.size b10
                rw [h5] at this ⊢; omega) (by omega)) v3
              simp only [Nat.add_zero] at hst
              have hrun : (Builtin.append_ #[t, u] o.type #[.slice A es.length c.cap, yv]).run P w = .ok (.slice A (es.length + ys.length) c.cap) { w with heap := w.heap.setIfInBounds c.block (.cells (asplice arr (es.length * i.size) vs) t' fz) } := by
                rw [hA1]
                rcases k1.kind with ⟨e', hke⟩ | hke <;> simp [Builtin.append_, run_und hd, run_und hke, run_size hi, k1.len, hfit, k1.cells, add_plain, hst]
              -- the row is longer, then it gets its new name
              obtain ⟨k1, k2⟩ := hr.set (o' := .row t' i.size frz (es ++ ys)) hrow hc' (.cells (asplice arr (es.length * i.size) vs) t' fz) (heap_lt b1) (fun w' hw' hx' hxs => by
                subst hw'
                refine ⟨h5, asplice arr (es.length * i.size) vs, fz, by simp [heap_lt b1], by rw [size_asplice]; exact b2, by simpa using hfit, by simp; unfold lenMax; omega, ?_, ?_, one_asplice _ _ _ b7 v3, by rw [size_asplice]; exact b8, b9, by simp; omega⟩
                · intro x hx
                  rw [h5]
                  rcases List.mem_append.1 hx with h | h
                  · rw [← h5]; exact b5 x h
                  · exact q3 x h
                · have e1 : (asplice arr (es.length * i.size) vs).toList.take ((es ++ ys).length * c.size) = arr.toList.take (es.length * c.size) ++ vs := by
                    rw [h5]
                    have hl1 : (arr.toList.take (es.length * i.size)).length = es.length * i.size := by
                      rw [List.length_take, Array.length_toList (xs := arr)]; omega
                    apply List.ext_getElem?
                    intro n
                    simp only [List.length_append, Nat.add_mul]
                    rw [List.getElem?_take]
                    by_cases hn1 : n < es.length * i.size + ys.length * i.size
                    · rw [if_pos hn1, Array.getElem?_toList]
                      by_cases hn2 : n < es.length * i.size
                      · rw [asplice_get _ _ _ _ (.inl hn2), List.getElem?_append_left (by omega), List.getElem?_take, if_pos hn2, Array.getElem?_toList]
                      · rw [List.getElem?_append_right (by omega), hl1]
                        have key : ∀ (vs : List Value) (arr : Array Value) (k m : Nat), k + vs.length ≤ arr.size → m < vs.length → (asplice arr k vs)[k + m]? = vs[m]? := by
                          intro vs
                          induction vs with
                          | nil => intro arr k m _ h; simp at h
                          | cons v vs ih =>
                            intro arr k m hk hm
                            simp only [asplice]
                            simp only [List.length_cons] at hk hm
                            cases m with
                            | zero =>
                              rw [asplice_get _ _ _ _ (.inl (by omega))]
                              simp [show k < arr.size by omega]
                            | succ m =>
                              have := ih (arr.setIfInBounds k v) (k + 1) m (by simp; omega) (by omega)
                              rw [show k + (m + 1) = k + 1 + m by omega, this]
                              simp
                        have := key vs arr (es.length * i.size) (n - es.length * i.size) hm (by omega)
                        rw [show es.length * i.size + (n - es.length * i.size) = n by omega] at this
                        exact this
                    · rw [if_neg hn1, List.getElem?_eq_none (by simp only [List.length_append]; omega)]
                  rw [e1, List.flatten_append]
                  exact (hxs _ _ b6).append (hxs _ _ v2))
              obtain ⟨μ', g1, g2, g3⟩ := k1.rename (Store.get_set_same _ _ _) hc'
              have e2 : (S.set r (some (.row t' i.size frz (es ++ ys)))).set r none = S.set r none := Store.set_set _ _ _ _
              rw [e2] at g2 g3
              rw [Store.n_set] at g1
              refine st_ok (hexec _ _ hrun) hk g2 (k2.trans g3) ?_
              simp only [Rep]
              exact ⟨c, A, g1, by omega, h4, by simp, hA⟩
            · -- a new array
              have hfit' : c.cap < es.length + ys.length := by omega
              have hdrop : ∀ l o, (S.set r none).get l = some o → S.get l = some o := fun l o h => by
                rw [Store.get_set] at h
                split at h
                · cases h
                · exact h
              obtain ⟨d1, d2⟩ := hr.drop (T := S.set r none) hdrop (Nat.le_refl _)
              obtain ⟨hr1, hk1⟩ := d1.world (w' := w.drew) (Nat.le_refl _) (fun _ _ => rfl) rfl rfl rfl
              have kk := d2.trans hk1
              have hcells : ∀ j u, (arr.toList.take (es.length * i.size))[j]? = some u → w.cell? ⟨c.block, j, none⟩ = some u := fun j u hj => by
                rw [cells_of_block b1]
                have hjl := get_lt hj
                rw [List.length_take, Array.length_toList (xs := arr)] at hjl
                rw [List.getElem?_take, if_pos (by omega)] at hj
                simpa using hj
              have hm1 : es.length * i.size ≤ arr.size := by rw [b2, h5]; exact Nat.mul_le_mul_right _ b3
              have hol : (arr.toList.take (es.length * i.size)).length = es.length * i.size := by rw [List.length_take, Array.length_toList (xs := arr)]; omega
              have hfin : ∃ cap, es.length + ys.length ≤ cap ∧ cap ≤ 2 * lenMax * lenMax ∧ (Builtin.append_ #[t, u] o.type #[.slice A es.length c.cap, yv]).run P w =
                  .ok (.slice (some ⟨w.heap.size, 0, none⟩) (es.length + ys.length) cap) (w.drew.alloc (.cells ((arr.toList.take (es.length * i.size)).toArray ++ vs.toArray ++ Builtin.zeroCells z.cells (cap - (es.length + ys.length))) t')) := by
                refine ⟨grownCap w (es.length + ys.length) c.cap t', grownCap_ge _ _ _ _, cap_bound _ _ _ (by unfold lenMax; omega), ?_⟩
                have hold : (Builtin.firstCells i.size es.length (.slice A es.length c.cap)).run P w.drew = .ok (arr.toList.take (es.length * i.size)).toArray w.drew := by
                  by_cases h0 : c.cap = 0
                  · have hes : es = [] := List.eq_nil_of_length_eq_zero (by omega)
                    subst hes
                    cases A <;> simp [Builtin.firstCells, loadCells, loadCellsFrom]
                  · have hA1 := hA (by omega)
                    simp only [Nat.zero_mul] at hA1
                    rw [hA1]
                    exact run_firstCells_some (P := P) w.drew i.size es.length ⟨c.block, 0, none⟩ es.length c.cap _ hol (fun j u hj => by rw [add_plain, Nat.zero_add]; exact hcells j u hj)
                have := run_append_grow_src (P := P) w t u o.type t' i z hd hi hz A es.length c.cap _ hold yv ys.length vs k1 hfit' (by omega) (growslice_fits hfit' hb)
                rw [this]
                simp [List.append_assoc]
              obtain ⟨cap, p1, p2, hrun⟩ := hfin
              have hvv : RepVals μ (Mut μ S) w (es ++ ys).flatten (arr.toList.take (es.length * i.size) ++ vs) := by
                rw [List.flatten_append]
                have := b6
                rw [h5] at this
                exact this.append v2
              have hm2 : (es.length + ys.length) * i.size ≤ cap * i.size := Nat.mul_le_mul_right _ p1
              rw [Nat.add_mul] at hm2
              obtain ⟨μ', g1, g2, g3⟩ := new_row hr1 t' frz (by simp; omega) (s := i.size) (es := es ++ ys) (arr := (arr.toList.take (es.length * i.size)).toArray ++ vs.toArray ++ Builtin.zeroCells z.cells (cap - (es.length + ys.length))) (cap := cap) (fz := (0, 0))
                (by simp only [Array.size_append, size_zeroCells, hzs.1, List.size_toArray, hol, v1, Nat.sub_mul, Nat.add_mul]; omega) (by simpa using p1) (by simp; unfold lenMax; omega) p2
                (fun x hx => by rcases List.mem_append.1 hx with h | h
                                · have := b5 x h; rwa [h5] at this
                                · exact q3 x h)
                (by
                  have e3 : (es ++ ys).length * i.size = ((arr.toList.take (es.length * i.size)) ++ vs).length := by
                    rw [List.length_append, List.length_append, hol, v1, Nat.add_mul]
                  rw [Array.toList_append, Array.toList_append, e3]
                  simp only [List.take_left]
                  exact RepVals.keep kk _ _ hvv)
                (by
                  intro x hx
                  rw [Array.toList_append, Array.toList_append] at hx
                  rcases List.mem_append.1 hx with h | h
                  · rcases List.mem_append.1 h with h | h
                    · exact b7 x (List.mem_of_mem_take h)
                    · exact v3 x h
                  · simp only [Builtin.zeroCells, Array.toList_map, List.mem_map] at h
                    obtain ⟨k, _, rfl⟩ := h
                    apply hz1
                    have hmod := Nat.mod_lt k (show 0 < z.cells.size by omega)
                    simp [hmod])
                (by simp)
              simp only [List.length_append] at g3
              exact st_ok (hexec _ _ hrun) hk g1 (kk.trans g2) g3
      · cases hs
    · cases hs
  · cases hs
end
end Go.Proofs.YtajbeippbabhhaaGreatDoor.Eng

namespace Go.Proofs.YtajbeippbabhhaaGreatDoor.Eng
open Go
section
variable {P : Program} {o : Oper} {a : Act} {μ : Mu} {S : Store} {w : World} {K : AV → Store → Prop} {E : AV → Store → Prop} {fr : Fr} {out : Out}

theorem sound_len {c : Call} {x : Operand} {t e : TypeId} {lx : LX} (ho : o.op = .call c) (hc : c = { callee := .builtin .len, args := #[x], argTypes := #[t] }) (hr : Repr μ S w) (hf : FrRep μ (Mut μ S) w fr a)
    (hx : lowerX x = some lx) (hd : P.underlying t = some (.slice e)) (hs : stepOp P fr S (.len lx) = some out) (hk : OutK P K E S out) : OpOk P o a μ S w K E := by
  have h1 := lowerX_sound hf hx
  simp only [stepOp] at hs
  split at hs
  · rename_i s' es hes
    cases hs
    simp only [OutK, true_and] at hk
    obtain ⟨A, c', hv, q1, q2, q3, q4⟩ := elems_sound hr h1 hes
    refine val_ok (x := .int .i64 es.length) ?_ (hk q2) hr (by simp only [Rep])
    subst hc
    simp [execOp, ho, resolve, invoke, builtin, Builtin.len_, run_und hd, hv, goInt]
  · split at hs
    · rename_i l off len hev
      rw [hev] at h1
      simp only [Rep] at h1
      obtain ⟨cl, A, _, _, _, hv, _⟩ := h1
      refine val_ok (x := .int .i64 len) ?_ (out_val hs hk) hr (by simp only [Rep])
      subst hc
      simp [execOp, ho, resolve, invoke, builtin, Builtin.len_, run_und hd, hv, goInt]
    · cases hs

theorem sound_lenS {c : Call} {x : Operand} {t : TypeId} {lx : LX} (ho : o.op = .call c) (hc : c = { callee := .builtin .len, args := #[x], argTypes := #[t] }) (hr : Repr μ S w) (hf : FrRep μ (Mut μ S) w fr a)
    (hx : lowerX x = some lx) (hd : P.underlying t = some .string) (hs : stepOp P fr S (.lenS lx) = some out) (hk : OutK P K E S out) : OpOk P o a μ S w K E := by
  have h1 := lowerX_sound hf hx
  simp only [stepOp] at hs
  split at hs
  · rename_i s hs'
    rw [hs'] at h1
    cases hs
    simp only [OutK, true_and] at hk
    simp only [Rep] at h1
    refine val_ok (x := .int .i64 s.length) ?_ (hk h1.2) hr (by simp only [Rep])
    subst hc
    simp [execOp, ho, resolve, invoke, builtin, Builtin.len_, run_und hd, h1.1, strV, strSize, goInt]
  · cases hs

theorem sound_min {c : Call} {x y : Operand} {ts : Array TypeId} {lx ly : LX} (ho : o.op = .call c) (hc : c = { callee := .builtin .min, args := #[x, y], argTypes := ts }) (hr : Repr μ S w) (hf : FrRep μ (Mut μ S) w fr a)
    (hx : lowerX x = some lx) (hy : lowerX y = some ly) (hs : stepOp P fr S (.minI lx ly) = some out) (hk : OutK P K E S out) : OpOk P o a μ S w K E := by
  have h1 := lowerX_sound hf hx
  have h2 := lowerX_sound hf hy
  simp only [stepOp] at hs
  obtain ⟨v, hv, rfl⟩ := out_map hs
  generalize ev fr lx = p at h1 hv
  generalize ev fr ly = q at h2 hv
  unfold minV at hv
  split at hv
  · cases hv
    simp only [Rep] at h1 h2
    refine val_ok ?_ hk hr (by simp only [Rep]; rfl)
    subst hc
    simp [execOp, ho, resolve, invoke, builtin, Builtin.min_, Builtin.min2, h1, h2]
  · cases hv

theorem sound_iface {t : TypeId} {x : Operand} {lx : LX} {d : TypeDesc} (ho : o.op = .makeInterface t x) (hr : Repr μ S w) (hf : FrRep μ (Mut μ S) w fr a) (hx : lowerX x = some lx) (hd : P.underlying t = some d) (hni : ∀ ms, d ≠ .interface ms)
    (hs : stepOp P fr S (.iface t lx) = some out) (hk : OutK P K E S out) : OpOk P o a μ S w K E := by
  have h1 := lowerX_sound hf hx
  simp only [stepOp] at hs
  refine val_ok (x := .iface t (a.eval x)) ?_ (out_val hs hk) hr (by simp only [Rep]; exact ⟨_, rfl, h1⟩)
  have : (Instr.makeInterface t (a.eval x)).run P w = .ok (.iface t (a.eval x)) w := by
    unfold Instr.makeInterface
    simp only [Sem.run_bind, run_und hd, Result.andThen_ok]
    cases d <;> first | rfl | exact absurd rfl (hni _)
  simp only [execOp, ho, Sem.run_bind, this, Result.andThen_ok, Sem.run_pure]

theorem sound_mkfn {fn : Fn} {first cap : Array Operand} {ls : List LX} (ho : o.op = .makeFunc fn first cap) (hr : Repr μ S w) (hf : FrRep μ (Mut μ S) w fr a) (hfirst : first.size = 0) (hl : lowerXs cap.toList = some ls)
    (hs : stepOp P fr S (.mkfn fn ls) = some out) (hk : OutK P K E S out) : OpOk P o a μ S w K E := by
  have h1 := lowerXs_sound hf hl
  have he : first = #[] := Array.eq_empty_of_size_eq_zero hfirst
  simp only [stepOp] at hs
  refine val_ok (x := .func fn #[] (cap.map a.eval)) ?_ (out_val hs hk) hr (by simp only [Rep]; exact ⟨_, rfl, by simpa using h1⟩)
  simp [execOp, ho, Instr.makeFunc, he]

theorem sound_panic {x : Operand} {lx : LX} (ho : o.op = .panic x) (hr : Repr μ S w) (hf : FrRep μ (Mut μ S) w fr a) (hx : lowerX x = some lx)
    (hs : stepOp P fr S (.panic lx) = some out) (hk : OutK P K E S out) : OpOk P o a μ S w K E := by
  have h1 := lowerX_sound hf hx
  simp only [stepOp] at hs
  split at hs
  · rename_i t v hv
    cases hs
    rw [hv] at h1
    have h2 := h1
    simp only [Rep] at h2
    obtain ⟨u, he, _⟩ := h2
    have hrun : (execOp a.eval o).run P w = .halt (.panic (a.eval x)) w := by
      simp [execOp, ho, Instr.panic, he, goPanic]
    unfold OpOk Oper.wp
    rw [hrun]
    exact ⟨μ, S, _, _, hk, rfl, rfl, hr, Keeps.refl _ _ _, h1⟩
  · cases hs

theorem body_of {f : FuncId} (h : hasBody P f = true) : ∃ fn, P.funcs[f]? = some fn ∧ fn.body.isNone = false ∧ (fn.name == "runtime.NumGoroutine") = false := by
  unfold hasBody at h
  split at h
  · rename_i fn hfn
    simp only [Bool.and_eq_true, Bool.not_eq_true'] at h
    refine ⟨fn, hfn, ?_, h.2⟩
    cases hb : fn.body <;> simp_all
  · cases h

theorem run_callFunc {f : FuncId} (h : hasBody P f = true) (args : Array Value) : (callFunc f args).run P w = .ok (.enter f args) w := by
  obtain ⟨fn, h1, h2, h3⟩ := body_of h
  have h3' : ¬ fn.name = "runtime.NumGoroutine" := by simpa using h3
  have h2' : ¬ fn.body = none := fun e => by simp [e] at h2
  simp [callFunc, program, Sem.run, h1, h2', h3']

theorem call_ok {f : FuncId} {args : List AV} {vs : List Value} (hr : Repr μ S w) (hv : RepVals μ (Mut μ S) w args vs) (hrun : (execOp a.eval o).run P w = .ok (.enter f vs.toArray) w)
    (hk : OutK P K E S (.call f args)) : OpOk P o a μ S w K E := by
  simp only [OutK] at hk
  unfold OpOk Oper.wp
  rw [hrun]
  simp only [Oper.upon]
  refine (hk μ w vs hr hv).mono fun e w' ⟨μ', S', r, h1, h2, h3, h4⟩ => ?_
  cases e with
  | returned v =>
    cases r with
    | ret x => exact ⟨μ', S', x, v, h1, rfl, h2, h3, h4⟩
    | pan x => exact h4.elim
  | panicked ch =>
    cases r with
    | ret x => exact h4.elim
    | pan x =>
      obtain ⟨u, hch, hu⟩ := h4
      exact ⟨μ', S', x, u, h1, by rw [hch], trivial, h2, h3, hu⟩
  | outgrown => cases r <;> exact h4.elim

theorem sound_call {c : Call} {f : FuncId} {ls : List LX} (ho : o.op = .call c) (hc : c.callee = .value (.func f)) (hr : Repr μ S w) (hf : FrRep μ (Mut μ S) w fr a) (hl : lowerXs c.args.toList = some ls) (hb : hasBody P f = true)
    (hs : stepOp P fr S (.call f ls) = some out) (hk : OutK P K E S out) : OpOk P o a μ S w K E := by
  have h1 := lowerXs_sound hf hl
  simp only [stepOp, Option.some.injEq] at hs
  subst hs
  refine call_ok hr h1 ?_ hk
  have : (c.args.toList.map a.eval).toArray = c.args.map a.eval := by apply Array.ext'; simp
  rw [this]
  simp [execOp, ho, resolve, hc, Act.eval, Deferred.ofValue, invoke, run_callFunc hb]

theorem sound_callv {c : Call} {x : Operand} {lx : LX} {ls : List LX} (ho : o.op = .call c) (hc : c.callee = .value x) (hr : Repr μ S w) (hf : FrRep μ (Mut μ S) w fr a) (hx : lowerX x = some lx) (hl : lowerXs c.args.toList = some ls)
    (hs : stepOp P fr S (.callv lx ls) = some out) (hk : OutK P K E S out) : OpOk P o a μ S w K E := by
  have h0 := lowerX_sound hf hx
  have h1 := lowerXs_sound hf hl
  simp only [stepOp] at hs
  split at hs
  · rename_i f cap hfn
    rw [hfn] at h0
    split at hs
    · rename_i hb
      simp only [Option.some.injEq] at hs
      subst hs
      simp only [Rep] at h0
      obtain ⟨us, he, h2⟩ := h0
      refine call_ok hr (h1.append h2) ?_ hk
      have : (c.args.toList.map a.eval ++ us.toList).toArray = c.args.map a.eval ++ us := by apply Array.ext'; simp
      rw [this]
      simp [execOp, ho, resolve, hc, he, Deferred.ofValue, invoke, run_callFunc hb]
    · cases hs
  · cases hs
end
end Go.Proofs.YtajbeippbabhhaaGreatDoor.Eng

namespace Go.Proofs.YtajbeippbabhhaaGreatDoor.Eng
open Go Go.Lib
section
variable {P : Program} {o : Oper} {a : Act} {μ : Mu} {S : Store} {w : World} {K : AV → Store → Prop} {E : AV → Store → Prop} {fr : Fr} {out : Out}

theorem equalIn_ptr {t e : TypeId} {i : TypeInfo} (hd : P.underlying t = some (.pointer e)) (hi : P.info? e = some i) (hs : i.size ≠ 0) (d : Nat) :
    (Op.equalIn (d + 1) t (.pointer none) (.pointer none)).run P w = .ok true w ∧ (∀ q, (Op.equalIn (d + 1) t (.pointer (some q)) (.pointer none)).run P w = .ok false w) ∧
    (∀ q, (Op.equalIn (d + 1) t (.pointer none) (.pointer (some q))).run P w = .ok false w) ∧ ∀ q, (Op.equalIn (d + 1) t (.pointer (some q)) (.pointer (some q))).run P w = .ok true w := by
  refine ⟨?_, fun q => ?_, fun q => ?_, fun q => ?_⟩ <;> simp only [Op.equalIn, Sem.run_bind, run_und hd, Result.andThen_ok, Sem.run_pure, Option.isNone, run_size hi, ne_eq, hs, not_false_eq_true, if_true, run_sameAddr_same]

theorem equal_ptr {t e : TypeId} {i : TypeInfo} (hd : P.underlying t = some (.pointer e)) (hi : P.info? e = some i) (hs : i.size ≠ 0) {x y : AV} {u v : Value} {M : Nat → Prop} (hx : Rep μ M w x u) (hy : Rep μ M w y v) {b : Bool} (h : peqV x y = some b) :
    (Op.equal t u v).run P w = .ok b w ∧ ∃ q q', u = .pointer q ∧ v = .pointer q' := by
  obtain ⟨k1, k2, k3, k4⟩ := equalIn_ptr (w := w) hd hi hs 9999
  unfold peqV at h
  split at h
  · simp only [Rep] at hx hy; rw [hx.1, hy.1]; cases h; exact ⟨k1, _, _, rfl, rfl⟩
  · simp only [Rep] at hx hy; obtain ⟨c, _, e1⟩ := hx; rw [e1, hy.1]; cases h; exact ⟨k2 _, _, _, rfl, rfl⟩
  · simp only [Rep] at hx hy; obtain ⟨_, _, _, _, e1, _⟩ := hx; rw [e1, hy.1]; cases h; exact ⟨k2 _, _, _, rfl, rfl⟩
  · simp only [Rep] at hx hy; obtain ⟨c, _, e1⟩ := hx; rw [e1, hy.1]; cases h; exact ⟨k2 _, _, _, rfl, rfl⟩
  · simp only [Rep] at hx hy; obtain ⟨c, _, e1⟩ := hy; rw [e1, hx.1]; cases h; exact ⟨k3 _, _, _, rfl, rfl⟩
  · simp only [Rep] at hx hy; obtain ⟨_, _, _, _, e1, _⟩ := hy; rw [e1, hx.1]; cases h; exact ⟨k3 _, _, _, rfl, rfl⟩
  · simp only [Rep] at hx hy; obtain ⟨c, _, e1⟩ := hy; rw [e1, hx.1]; cases h; exact ⟨k3 _, _, _, rfl, rfl⟩
  · split at h
    · rename_i he
      obtain ⟨rfl, rfl⟩ := he
      cases h
      simp only [Rep] at hx hy
      obtain ⟨c, h1, rfl⟩ := hx
      obtain ⟨c', h2, rfl⟩ := hy
      rw [h1] at h2; cases h2
      exact ⟨k4 _, _, _, rfl, rfl⟩
    · cases h
  · cases h

theorem sound_peq {neg : Bool} {t t' e : TypeId} {i : TypeInfo} {x y : Operand} {lx ly : LX} (ho : o.op = .binOp (if neg then .neq else .eql) t x y t') (hr : Repr μ S w) (hf : FrRep μ (Mut μ S) w fr a) (hx : lowerX x = some lx) (hy : lowerX y = some ly)
    (hd : P.underlying t = some (.pointer e)) (hi : P.info? e = some i) (hsz : i.size ≠ 0) (hs : stepOp P fr S (.peq neg lx ly) = some out) (hk : OutK P K E S out) : OpOk P o a μ S w K E := by
  have h1 := lowerX_sound hf hx
  have h2 := lowerX_sound hf hy
  simp only [stepOp] at hs
  obtain ⟨b, hb, rfl⟩ := out_map hs
  obtain ⟨he, q, q', hq, hq'⟩ := equal_ptr hd hi hsz h1 h2 hb
  refine val_ok (x := .bool (if neg then !b else b)) ?_ hk hr (by simp only [Rep])
  rw [hq, hq'] at he
  cases neg
  · simp [execOp, ho, eqGuard, hq, hq', binOp, he]
  · simp [execOp, ho, eqGuard, hq, hq', binOp, he]

theorem equalIn_nil {t : TypeId} {ms : Array (String × TypeId)} (hd : P.underlying t = some (.interface ms)) (d : Nat) :
    (Op.equalIn (d + 1) t .nilIface .nilIface).run P w = .ok true w ∧ ∀ t' u, (Op.equalIn (d + 1) t (.iface t' u) .nilIface).run P w = .ok false w := by
  refine ⟨?_, fun t' u => ?_⟩ <;> simp only [Op.equalIn, Sem.run_bind, run_und hd, Result.andThen_ok, Sem.run_pure]
theorem sound_inil {neg : Bool} {t t' : TypeId} {ms : Array (String × TypeId)} {x : Operand} {lx : LX} (ho : o.op = .binOp (if neg then .neq else .eql) t x (.const .nilIface) t') (hr : Repr μ S w) (hf : FrRep μ (Mut μ S) w fr a) (hx : lowerX x = some lx)
    (hd : P.underlying t = some (.interface ms)) (hs : stepOp P fr S (.inil neg lx) = some out) (hk : OutK P K E S out) : OpOk P o a μ S w K E := by
  have h1 := lowerX_sound hf hx
  have hcn : a.eval (.const .nilIface) = .nilIface := rfl
  obtain ⟨k1, k2⟩ := equalIn_nil (w := w) hd 9999
  simp only [stepOp] at hs
  split at hs
  · rename_i t0 v0 hev
    rw [hev] at h1
    simp only [Rep] at h1
    obtain ⟨u, hu, _⟩ := h1
    have e : (Op.equal t (a.eval x) .nilIface).run P w = .ok false w := by rw [hu]; exact k2 _ _
    refine val_ok (x := .bool neg) ?_ (out_val hs hk) hr (by simp only [Rep])
    rw [hu] at e
    cases neg
    · simp [execOp, ho, eqGuard, hu, hcn, binOp, e]
    · simp [execOp, ho, eqGuard, hu, hcn, binOp, e]
  · rename_i hev
    rw [hev] at h1
    simp only [Rep] at h1
    have hu := h1.1
    have e : (Op.equal t (a.eval x) .nilIface).run P w = .ok true w := by rw [hu]; exact k1
    refine val_ok (x := .bool (!neg)) ?_ (out_val hs hk) hr (by simp only [Rep])
    rw [hu] at e
    cases neg
    · simp [execOp, ho, eqGuard, hu, hcn, binOp, e]
    · simp [execOp, ho, eqGuard, hu, hcn, binOp, e]
  · cases hs
theorem sound_tass {xt t : TypeId} {d : TypeDesc} {x : Operand} {lx : LX} (ho : o.op = .typeAssert x xt t true) (hr : Repr μ S w) (hf : FrRep μ (Mut μ S) w fr a) (hx : lowerX x = some lx)
    (hd : P.underlying t = some d) (hni : ∀ ms, d ≠ .interface ms) (hs : stepOp P fr S (.tass t lx) = some out) (hk : OutK P K E S out) : OpOk P o a μ S w K E := by
  have h1 := lowerX_sound hf hx
  simp only [stepOp] at hs
  split at hs
  · rename_i t0 v0 hev
    rw [hev] at h1
    simp only [Rep] at h1
    obtain ⟨u, hu, hv⟩ := h1
    split at hs
    · rename_i he
      subst he
      refine val_ok (x := .tuple #[u, .bool true]) ?_ (out_val hs hk) hr (by simp only [Rep]; exact ⟨#[u, .bool true], rfl, by simp only [RepVals]; exact ⟨u, [.bool true], rfl, hv, .bool true, [], rfl, by simp only [Rep], rfl⟩⟩)
      have e : (Instr.typeAssert (.iface t0 u) xt t0 true).run P w = .ok (.tuple #[u, .bool true]) w := by
        simp only [Instr.typeAssert, Sem.run_bind, run_und hd, Result.andThen_ok]
        cases d <;> first | exact absurd rfl (hni _) | simp
      simp [execOp, ho, hu, e]
    · cases hs
  · cases hs

theorem box_shape (hr : Repr μ S w) {l : Nat} {t : TypeId} {cs : List AV} (hl : S.get l = some (.box t cs)) {c : Loc} (hc : μ l = some c) : w.shape? c.block = some (t, cs.length) := by
  obtain ⟨arr, h1, h2, _⟩ := repr_box hr hl hc
  have := h2.length
  simp [World.shape?, h1, ← this]

theorem sound_p2u {src dst t : TypeId} {i : TypeInfo} {x : Operand} {lx : LX} (ho : o.op = .convert src dst x) (hr : Repr μ S w) (hf : FrRep μ (Mut μ S) w fr a) (hx : lowerX x = some lx)
    (hd : P.underlying src = some (.pointer t)) (hd' : P.underlying dst = some .unsafePointer) (hi : P.info? t = some i) (hsz : i.size ≠ 0) (hs : stepOp P fr S (.p2u lx) = some out) (hk : OutK P K E S out) : OpOk P o a μ S w K E := by
  have h1 := lowerX_sound hf hx
  simp only [stepOp] at hs
  split at hs
  · rename_i l off hev
    rw [hev] at h1
    split at hs
    · rename_i t' cs hl
      split at hs
      · rename_i hlt
        have h1' := h1
        simp only [Rep] at h1
        obtain ⟨c, hc, hv⟩ := h1
        have hrun := run_to_unsafe (P := P) (w := w) (⟨c.block, off, none⟩ : Addr) hd hd' hi hsz (box_shape hr hl hc) hlt
        exact val_ok (x := a.eval x) (by rw [hv] ; simp [execOp, ho, hv, hrun]) (out_val hs hk) hr h1'
      · cases hs
    · cases hs
  · cases hs

theorem sound_u2p {src dst t : TypeId} {i : TypeInfo} {x : Operand} {lx : LX} (ho : o.op = .convert src dst x) (hr : Repr μ S w) (hf : FrRep μ (Mut μ S) w fr a) (hx : lowerX x = some lx)
    (hd : P.underlying src = some .unsafePointer) (hd' : P.underlying dst = some (.pointer t)) (hi : P.info? t = some i) (hlies : liesAt P P.depth t (P.cellsOf t / P.cellsOf t) 0 t 1 = true)
    (hs : stepOp P fr S (.u2p t (P.cellsOf t) lx) = some out) (hk : OutK P K E S out) : OpOk P o a μ S w K E := by
  have h1 := lowerX_sound hf hx
  simp only [stepOp] at hs
  split at hs
  · rename_i l hev
    rw [hev] at h1
    split at hs
    · rename_i t' cs hl
      split at hs
      · rename_i hlt
        obtain ⟨rfl, hn⟩ := hlt
        have h1' := h1
        simp only [Rep] at h1
        obtain ⟨c, hc, hv⟩ := h1
        have hsh := box_shape hr hl hc
        rw [hn] at hsh
        have hrun := run_from_unsafe (P := P) (w := w) (⟨c.block, 0, none⟩ : Addr) hd hd' hi hsh hlies
        exact val_ok (x := a.eval x) (by rw [hv]; simp [execOp, ho, hv, hrun]) (out_val hs hk) hr h1'
      · cases hs
    · cases hs
  · cases hs

theorem find_noEsc {fn : Func} (h1 : fn.name = "internal/abi.NoEscape") (h2 : fn.origin = "") : Extern.findNext fn = none ∧ Extern.find fn = some Extern.AbiNoEscape.same := by
  unfold Extern.findNext Extern.find
  rw [h1, h2]
  exact ⟨by kernel_rfl, by kernel_rfl⟩

theorem sound_noesc {c : Call} {x : Operand} {f : FuncId} {lx : LX} (ho : o.op = .call c) (hc : c.callee = .value (.func f)) (hargs : c.args = #[x]) (hr : Repr μ S w) (hf : FrRep μ (Mut μ S) w fr a) (hx : lowerX x = some lx) (hn : isNoEsc P f = true)
    (hs : stepOp P fr S (.noesc lx) = some out) (hk : OutK P K E S out) : OpOk P o a μ S w K E := by
  have h1 := lowerX_sound hf hx
  simp only [stepOp] at hs
  unfold isNoEsc at hn
  split at hn
  · rename_i fn hfn
    simp only [Bool.and_eq_true, beq_iff_eq] at hn
    obtain ⟨⟨n1, n2⟩, n3⟩ := hn
    obtain ⟨e1, e2⟩ := find_noEsc n2 n3
    have hnum : (fn.name == "runtime.NumGoroutine") = false := by rw [n2]; decide
    refine val_ok (x := a.eval x) ?_ (out_val hs hk) hr h1
    have : (callFunc f #[a.eval x]).run P w = .ok (.value (a.eval x)) w := by
      simp [callFunc, program, Sem.run, hfn, n2, n1, e1, e2, mark]
      have n1' : fn.body = none := by simpa using n1
      rw [if_pos n1', run_noEscape]
      rfl
    have hev : a.eval (.func f) = .func (.func f) #[] #[] := rfl
    simp [execOp, ho, resolve, hc, hev, Deferred.ofValue, invoke, hargs, this]
  · cases hn

theorem sound_sdata {c : Call} {x : Operand} {ts : Array TypeId} {lx : LX} (ho : o.op = .call c) (hc : c = { callee := .builtin .unsafeSliceData, args := #[x], argTypes := ts }) (hr : Repr μ S w) (hf : FrRep μ (Mut μ S) w fr a) (hx : lowerX x = some lx)
    (hs : stepOp P fr S (.sdata lx) = some out) (hk : OutK P K E S out) : OpOk P o a μ S w K E := by
  have h1 := lowerX_sound hf hx
  have hexec : ∀ v w', (Builtin.unsafeSliceData_ ts o.type #[a.eval x]).run P w = .ok v w' → (execOp a.eval o).run P w = .ok (.value v) w' := by
    intro v w' h
    subst hc
    simp [execOp, ho, resolve, invoke, builtin, h]
  simp only [stepOp] at hs
  split at hs
  · rename_i hev
    rw [hev] at h1
    simp only [Rep] at h1
    rw [h1.1] at hexec
    exact val_ok (hexec _ _ (run_unsafeSliceData_nil w ts o.type 0 0)) (out_val hs hk) hr (by simp [Rep, one])
  · rename_i l off len hev
    rw [hev] at h1
    cases hs
    simp only [OutK, true_implies] at hk
    simp only [Rep] at h1
    obtain ⟨cl, A, hcl, h2, h3, hv, hA⟩ := h1
    have hA1 := hA (by omega)
    rw [hv, hA1] at hexec
    refine val_ok (hexec _ _ (run_unsafeSliceData_row w ts o.type _ len _ (by omega))) hk.2 hr ?_
    simp only [Rep]
    exact ⟨cl, hcl, by simp⟩
  · cases hs


/-- A block is given up, and turned. -/
theorem Repr.kill (h : Repr μ S w) {l : Nat} {o : AObj} {c : Loc} (hl : S.get l = some o) (hc : μ l = some c) (ob : Obj) :
    Repr μ (S.set l none) { w with heap := w.heap.setIfInBounds c.block ob } ∧ Keeps μ (Mut μ S) w μ (Mut μ (S.set l none)) { w with heap := w.heap.setIfInBounds c.block ob } := by
  have hne : ∀ j x, (S.set l none).get j = some x → j ≠ l ∧ S.get j = some x := fun j x e => by
    rw [Store.get_set] at e
    by_cases ej : j = l
    · rw [if_pos ej] at e; cases e
    · rw [if_neg ej] at e; exact ⟨ej, e⟩
  have hb : ∀ b, b ≠ c.block → (w.heap.setIfInBounds c.block ob)[b]? = w.heap[b]? := fun b hb => by
    rw [Array.getElem?_setIfInBounds, if_neg (Ne.symm hb)]
  have k : Keeps μ (Mut μ S) w μ (Mut μ (S.set l none)) { w with heap := w.heap.setIfInBounds c.block ob } :=
    ⟨fun _ _ h => h, fun b _ ⟨j, x, d, h1, h2⟩ => ⟨j, x, d, (hne j x h1).2, h2⟩, by simp, fun b _ hm => hb b fun e => hm ⟨l, o, c, hl, hc, e.symm⟩, rfl, rfl, rfl⟩
  refine ⟨⟨fun j x e => ?_, fun j j' x x' d d' h1 h2 => h.inj j j' x x' d d' (hne j x h1).2 (hne j' x' h2).2, h.fin⟩, k⟩
  obtain ⟨e1, e2⟩ := hne j x e
  obtain ⟨d, h1, h2⟩ := h.objs j x e2
  exact ⟨d, h1, h2.keep k (hb _ fun e => e1 (h.inj j l x o d c e2 hl h1 hc e))⟩

theorem rowBytes_spec : ∀ (es : List (List AV)) (bs : List UInt8), rowBytes es = some bs → es = byteRow bs
  | [], bs, h => by simp only [rowBytes, Option.some.injEq] at h; subst h; rfl
  | e :: es, bs, h => by
    unfold rowBytes at h
    split at h
    · rename_i h'; cases h'
    · rename_i n r he
      cases he
      split at h
      · rename_i hn
        split at h
        · rename_i l' hl'
          cases h
          have := rowBytes_spec es l' hl'
          subst this
          simp only [byteRow, List.map_cons, List.cons.injEq, AV.int.injEq, and_true, true_and]
          have : (UInt8.ofNat n.toNat).toNat = n.toNat := by simp; omega
          rw [this]; omega
        · cases h
      · cases h
    · cases h

theorem sound_sstr {c : Call} {x y : Operand} {pt it e : TypeId} {lx ly : LX} (ho : o.op = .call c) (hc : c = { callee := .builtin .unsafeString, args := #[x, y], argTypes := #[pt, it] }) (hr : Repr μ S w) (hf : FrRep μ (Mut μ S) w fr a)
    (hx : lowerX x = some lx) (hy : lowerX y = some ly) (hp : P.underlying pt = some (.pointer e)) (he : P.cellsOf e = 1) (hs : stepOp P fr S (.sstr e lx ly) = some out) (hk : OutK P K E S out) : OpOk P o a μ S w K E := by
  have h1 := lowerX_sound hf hx
  have h2 := lowerX_sound hf hy
  have hexec : ∀ v w', (Builtin.unsafeString_ #[pt, it] o.type #[a.eval x, a.eval y]).run P w = .ok v w' → (execOp a.eval o).run P w = .ok (.value v) w' := by
    intro v w' h
    subst hc
    simp [execOp, ho, resolve, invoke, builtin, h]
  simp only [stepOp] at hs
  split at hs
  · rename_i k hev
    rw [hev] at h2
    simp only [Rep] at h2
    rw [h2] at hexec
    unfold strOf at hs
    by_cases hk0 : k = 0
    · subst hk0
      simp only [if_true] at hs
      have hnone : ∀ q, a.eval x = .pointer q → K (.str []) S → OpOk P o a μ S w K E := fun q hq hk => by
        rw [hq] at hexec
        exact st_ok (hexec _ _ (run_unsafeString_none w pt it o.type q)) hk hr (Keeps.refl _ _ _) (by simp only [Rep, strV]; exact ⟨rfl, by simp⟩)
      split at hs
      · rename_i bs heq
        cases hs
        split at heq
        · rename_i hev'; rw [hev'] at h1; simp only [Rep] at h1; cases heq; exact hnone none h1.1 hk
        · rename_i hev'; rw [hev'] at h1; simp only [Rep] at h1; obtain ⟨_, _, h1⟩ := h1; cases heq; exact hnone _ h1 hk
        · cases heq
      · rename_i heq; split at heq <;> cases heq
      · cases hs
    · rw [if_neg hk0] at hs
      split at hs
      · rename_i bs heq
        exfalso
        split at heq
        · split at heq
          · split at heq
            · split at heq <;> cases heq
            · cases heq
          · cases heq
        · cases heq
      · rename_i bs l heq
        cases hs
        split at heq
        · rename_i l' hev'
          rw [hev'] at h1
          split at heq
          · rename_i t frz es hl
            split at heq
            · rename_i hcond
              obtain ⟨rfl, hpos, hle⟩ := hcond
              split at heq
              · rename_i bs' hbs
                simp only [Option.some.injEq, Prod.mk.injEq] at heq
                obtain ⟨rfl, rfl, rfl⟩ := heq
                simp only [Rep] at h1
                obtain ⟨c', hc', hv⟩ := h1
                obtain ⟨g0, arr, fz, b1, b2, b3, b4, b5, b6, b7, b8, b9, b10⟩ := repr_row hr hl hc'
                have hrow := rowBytes_spec _ _ hbs
                have hlen : bs'.length = k.toNat := by
                  have := congrArg List.length hrow
                  simp only [List.length_take, byteRow, List.length_map] at this
                  omega
                have hkk : (k : Int) = (bs'.length : Int) := by omega
                have hcells : ∀ (j : Nat) (b : UInt8), bs'[j]? = some b → w.cell? ((⟨c'.block, 0, none⟩ : Addr).add j) = some (.int .u8 b.toNat) := fun j b hj => by
                  have hjl := get_lt hj
                  have h6 := b6
                  rw [g0, Nat.mul_one] at h6
                  have h7 := h6.take bs'.length
                  have hfl : (es.flatten.take bs'.length) = (byteRow bs').flatten := by
                    rw [← hrow, ← hlen]
                    have hw : ∀ e ∈ es, e.length = 1 := fun e he => by rw [← g0]; exact b5 e he
                    have key : ∀ (es : List (List AV)) (n : Nat), (∀ e ∈ es, e.length = 1) → es.flatten.take n = (es.take n).flatten := by
                      intro es
                      induction es with
                      | nil => intro n _; simp
                      | cons e es ih =>
                        intro n hw
                        cases n with
                        | zero => simp
                        | succ n =>
                          match e, hw e (by simp) with
                          | [x], _ => simp [ih n fun y hy => hw y (by simp [hy])]
                    exact key es _ hw
                  rw [hfl] at h7
                  have h8 := repVals_ints (bs'.map fun b => ((b.toNat : Nat) : Int)) _ (by simpa [byteRow, Function.comp_def] using h7)
                  have h9 : ((arr.toList.take es.length).take bs'.length)[j]? = some (.int .u8 b.toNat) := by
                    rw [h8]; simp [hj]
                  rw [List.getElem?_take, if_pos hjl, List.getElem?_take, if_pos (by omega)] at h9
                  rw [add_plain, Nat.zero_add, cells_of_block b1]
                  simpa using h9
                have hrun := run_unsafeString_row (P := P) w pt it o.type t hp he c'.block arr.size (by simp [World.shape?, b1]) bs' (by intro h; rw [h] at hlen; simp at hlen; omega) (by
                  rw [b2, g0, Nat.mul_one]; omega) (by unfold lenMax at b4; omega) hcells
                rw [hv, hkk] at hexec
                simp only [Nat.zero_mul, Nat.add_zero] at hexec
                have hne : ¬ bs'.length = 0 := by omega
                have hw' : w.freeze ⟨c'.block, 0, none⟩ bs'.length = { w with heap := w.heap.setIfInBounds c'.block (.cells arr t (if fz.1 == fz.2 then (0, bs'.length) else (0, max fz.2 bs'.length))) } := by
                  have hb := heap_lt b1
                  have h0 : w.freeze ⟨c'.block, 0, none⟩ bs'.length = { w with heap := (w.freeze ⟨c'.block, 0, none⟩ bs'.length).heap } := by
                    unfold World.freeze; rw [if_neg hne]
                  rw [h0]
                  congr 1
                  unfold World.freeze
                  rw [if_neg hne]
                  apply Array.ext_getElem?
                  intro i
                  rw [Array.getElem?_modify, Array.getElem?_setIfInBounds]
                  by_cases e : c'.block = i
                  · subst e
                    rw [if_pos rfl, if_pos rfl, if_pos hb, b1]
                    obtain ⟨lo, hi'⟩ := fz
                    simp
                  · rw [if_neg e, if_neg e]
                obtain ⟨k1, k2⟩ := hr.kill hl hc' (.cells arr t (if fz.1 == fz.2 then (0, bs'.length) else (0, max fz.2 bs'.length)))
                refine st_ok (w' := { w with heap := w.heap.setIfInBounds c'.block (.cells arr t (if fz.1 == fz.2 then (0, bs'.length) else (0, max fz.2 bs'.length))) }) (x := strV bs') (hexec _ _ (by rw [hrun, hw']; rfl)) hk k1 k2 ?_
                simp only [Rep]
                exact ⟨trivial, by unfold strMax; unfold lenMax at b4; omega⟩
              · cases heq
            · cases heq
          · cases heq
        · cases heq
      · cases hs
  · cases hs

theorem asplice_take2 : ∀ (vs : List Value) (arr : Array Value) (k : Nat), k + vs.length ≤ arr.size → (asplice arr k vs).toList.take (k + vs.length) = arr.toList.take k ++ vs
  | [], arr, k, h => by simp [asplice]
  | v :: vs, arr, k, h => by
    simp only [List.length_cons] at h
    simp only [asplice, List.length_cons]
    have := asplice_take2 vs (arr.setIfInBounds k v) (k + 1) (by simp; omega)
    rw [show k + (vs.length + 1) = k + 1 + vs.length by omega, this]
    have e : (arr.setIfInBounds k v).toList = arr.toList.set k v := by simp
    rw [e, List.take_add_one, List.take_set_of_le (Nat.le_refl k)]
    simp [show k < arr.size by omega]

theorem sound_copyS {c : Call} {x y : Operand} {t u e : TypeId} {i : TypeInfo} {lx ly : LX} (ho : o.op = .call c) (hc : c = { callee := .builtin .copy, args := #[x, y], argTypes := #[t, u] }) (hr : Repr μ S w) (hf : FrRep μ (Mut μ S) w fr a)
    (hx : lowerX x = some lx) (hy : lowerX y = some ly) (hd : P.underlying t = some (.slice e)) (hi : P.info? e = some i) (hsz : i.size = 1) (hs : stepOp P fr S (.copyS lx ly) = some out) (hk : OutK P K E S out) : OpOk P o a μ S w K E := by
  have h1 := lowerX_sound hf hx
  have h2 := lowerX_sound hf hy
  have hexec : ∀ v w', (Builtin.copy_ #[t, u] o.type #[a.eval x, a.eval y]).run P w = .ok v w' → (execOp a.eval o).run P w = .ok (.value v) w' := by
    intro v w' h
    subst hc
    simp [execOp, ho, resolve, invoke, builtin, h]
  simp only [stepOp] at hs
  split at hs
  · rename_i l off len hev
    rw [hev] at h1
    split at hs
    · rename_i t' es hl
      split at hs
      · rename_i bs hev2
        rw [hev2] at h2
        cases hs
        simp only [OutK, true_implies] at hk
        obtain ⟨⟨rfl, hlen, hbs⟩, hk⟩ := hk
        simp only [Rep] at h1 h2
        obtain ⟨cl, A, hcl, h3, h4, hv, hA⟩ := h1
        obtain ⟨hv2, hbl⟩ := h2
        obtain ⟨g0, arr, fz, b1, b2, b3, b4, b5, b6, b7, b8, b9, b10⟩ := repr_row hr hl hcl
        rw [hv, hv2] at hexec
        have hvs : ∀ w', (Builtin.firstCells 1 bs.length (strV bs)).run P w' = .ok (bs.map fun b => Value.int .u8 b.toNat).toArray w' := fun w' => by
          have := firstCells_string (P := P) ⟨bs.toArray⟩ w'
          have e1 : (⟨bs.toArray⟩ : ByteArray).size = bs.length := by simp [ByteArray.size]
          rw [e1] at this
          simpa [strV, byteCells] using this
        have hm : 0 + (bs.map fun b => Value.int .u8 b.toNat).length ≤ arr.size := by
          rw [b2, g0, Nat.mul_one, List.length_map]; omega
        have hst := run_storeCells_blk (P := P) cl.block t' fz (bs.map fun b => Value.int .u8 b.toNat) 0 0 arr w b1 (by simpa using hm) (fun j j1 j2 => b8 j (by omega) (by omega)) (fun v hv => by obtain ⟨b, _, rfl⟩ := List.mem_map.1 hv; rfl)
        have hmin : Nat.min bs.length len = bs.length := by show min bs.length len = bs.length; omega
        have hls : ∀ w' : World, (Builtin.lenOf (strV bs)).run P w' = .ok bs.length w' := fun w' => by simp [Builtin.lenOf, strV, ByteArray.size]
        have hrun : ∃ w', (Builtin.copy_ #[t, u] o.type #[.slice A len (cl.cap - 0), strV bs]).run P w = .ok (.int .i64 bs.length) w' ∧ w' = { w with heap := w.heap.setIfInBounds cl.block (.cells (asplice arr 0 (bs.map fun b => Value.int .u8 b.toNat)) t' fz) } := by
          by_cases hz : cl.cap = 0
          · have hb0 : bs = [] := List.eq_nil_of_length_eq_zero (by omega)
            subst hb0
            refine ⟨w, ?_, ?_⟩
            · cases A <;> simp [Builtin.copy_, run_und hd, run_size hi, hsz, Builtin.lenOf, strV, Builtin.firstCells, storeCells, goInt, ByteArray.size]
            · simp only [List.map_nil, asplice]
              have : w.heap.setIfInBounds cl.block (.cells arr t' fz) = w.heap := by
                apply Array.ext_getElem?
                intro i
                rw [Array.getElem?_setIfInBounds]
                split
                · rename_i e; subst e; rw [if_pos (heap_lt b1), b1]
                · rfl
              rw [this]
          · refine ⟨_, ?_, rfl⟩
            have hA1 := hA (by omega)
            simp only [Nat.zero_mul] at hA1
            rw [hA1]
            simp only [Builtin.copy_, Sem.run_bind, run_und hd, Result.andThen_ok, run_size hi, hsz, hls, hmin, hvs, Sem.run_pure]
            simp [run_und hd, run_size hi, hsz, hls, hmin, hvs, hst, goInt]
        obtain ⟨w', hrun, hw'⟩ := hrun
        obtain ⟨k1, k2⟩ := hr.set (o' := .row t' 1 0 (byteRow bs)) hl hcl (.cells (asplice arr 0 (bs.map fun b => Value.int .u8 b.toNat)) t' fz) (heap_lt b1) (fun w' hw' hx' hxs => by
          subst hw'
          have hlb : (byteRow bs).length = es.length := by simp [byteRow, hbs, hlen]
          refine ⟨g0, asplice arr 0 (bs.map fun b => Value.int .u8 b.toNat), fz, by simp [heap_lt b1], by rw [size_asplice]; exact b2, by rw [hlb]; exact b3, by rw [hlb]; exact b4, fun x hx => ?_, ?_, one_asplice _ _ _ b7 (fun v hv => by obtain ⟨b, _, rfl⟩ := List.mem_map.1 hv; rfl), by rw [size_asplice]; exact b8, b9, Nat.zero_le _⟩
          · simp only [byteRow, List.mem_map] at hx; obtain ⟨b, _, rfl⟩ := hx; rw [g0]; rfl
          · have e1 := asplice_take2 (bs.map fun b => Value.int .u8 b.toNat) arr 0 hm
            have e2 : (byteRow bs).length * cl.size = 0 + (bs.map fun b => Value.int .u8 b.toNat).length := by rw [g0]; simp [byteRow]
            rw [e2, e1]
            simpa using repVals_bytes (μ := μ) (w := { w with heap := _ }) (M := Mut μ S) bs)
        refine st_ok (w' := w') (hexec _ _ hrun) hk (by rw [hw']; exact k1) (by rw [hw']; exact k2) (by simp only [Rep])
      · cases hs
    · cases hs
  · cases hs
end
end Go.Proofs.YtajbeippbabhhaaGreatDoor.Eng

namespace Go.Proofs.YtajbeippbabhhaaGreatDoor.Eng
open Go
section
variable {P : Program} {o : Oper} {a : Act} {μ : Mu} {S : Store} {M : Nat → Prop} {w : World} {K : AV → Store → Prop} {E : AV → Store → Prop} {fr : Fr} {out : Out}

/-! ## Equality of arrays and structs -/
theorem kindB_agg {t : TypeId} {k : Nat} (h : kindB P t = some k) : ∃ d, P.underlying t = some d ∧ isAggB P t = false := by
  unfold kindB at h
  split at h <;> first
    | (cases h; done)
    | (rename_i hd; exact ⟨_, hd, by simp [isAggB, hd]⟩)

theorem run_part {t : TypeId} {k : Nat} (h : kindB P t = some k) {vs : Array Value} {off : Nat} {v : Value} (hv : vs[off]? = some v) : (part t vs off).run P w = .ok v w := by
  obtain ⟨d, hd, hag⟩ := kindB_agg h
  simp [part, run_isAgg hd, hag, hv]

theorem beq_dec {α : Type} [BEq α] [LawfulBEq α] [DecidableEq α] (a b : α) : (a == b) = decide (a = b) := by rw [Bool.eq_iff_iff]; simp
theorem strV_toList (l : List UInt8) : (⟨l.toArray⟩ : ByteArray).toList = l := by rw [ByteArray.toList_eq]

theorem eqS_sound {t : TypeId} {k : Nat} (h : kindB P t = some k) {x y : AV} {b : Bool} (hb : eqS k x y = some b) {v u : Value} (hv : Rep μ M w x v) (hu : Rep μ M w y u) (d : Nat) :
    (Op.equalIn (d + 1) t v u).run P w = .ok b w := by
  unfold eqS at hb
  split at hb
  · split at hb
    · rename_i e
      subst e
      cases hb
      simp only [Rep] at hv hu
      subst hv; subst hu
      unfold kindB at h
      split at h <;> first | (cases h; done) | skip
      rename_i hd
      rw [run_equalIn_int w d t _ _ _ _ hd]
      rfl
    · cases hb
  · cases hb
    simp only [Rep] at hv hu
    subst hv; subst hu
    unfold kindB at h
    split at h <;> first | (cases h; done) | skip
    rename_i hd
    rw [run_equalIn_bool w d t _ _ hd]
    rfl
  · cases hb
    simp only [Rep] at hv hu
    obtain ⟨rfl, _⟩ := hv
    obtain ⟨rfl, _⟩ := hu
    unfold kindB at h
    split at h <;> first | (cases h; done) | skip
    rename_i hd
    unfold strV
    rw [run_equalIn_string w d t _ _ hd, strV_toList, strV_toList, beq_dec]
  · cases hb

/-- One place after another. -/
theorem eqKs_fields {f : Nat → AV → AV → Option Bool} {d : Nat} (hf : ∀ (t : TypeId) (k : Nat), kindB P t = some k → ∀ x y b, f k x y = some b → ∀ v u, Rep μ M w x v → Rep μ M w y u → (Op.equalIn d t v u).run P w = .ok b w)
    {xs ys : List AV} {vs us : Array Value} (hx : RepVals μ M w xs vs.toList) (hy : RepVals μ M w ys us.toList) : ∀ (fs : List Field) (ks : List (Nat × Nat)) (b : Bool), ksF P fs = some ks → eqKs f xs ys ks = some b →
    (Op.eqFields d vs us fs).run P w = .ok b w
  | [], ks, b, hk, hb => by
    simp only [ksF, Option.some.injEq] at hk; subst hk
    simp only [eqKs, Option.some.injEq] at hb; subst hb
    simp [Op.eqFields]
  | fd :: fs, ks, b, hk, hb => by
    simp only [ksF] at hk
    split at hk
    · cases hk
    · rename_i hn
      split at hk
      · rename_i k l h1 h2
        cases hk
        simp only [eqKs] at hb
        split at hb <;> try (cases hb; done)
        rename_i x hx1
        split at hb <;> try (cases hb; done)
        rename_i y hy1
        split at hb <;> try (cases hb; done)
        rename_i b1 hb1
        split at hb <;> try (cases hb; done)
        rename_i c hc
        cases hb
        obtain ⟨v, hv1, hv2⟩ := hx.at _ _ hx1
        obtain ⟨u, hu1, hu2⟩ := hy.at _ _ hy1
        have ih := eqKs_fields hf hx hy fs l c h2 hc
        simp only [Op.eqFields, if_pos hn, Sem.run_bind]
        rw [run_part h1 (v := v) (by simpa using hv1), Result.andThen_ok, run_part h1 (v := u) (by simpa using hu1), Result.andThen_ok, hf _ _ h1 x y b1 hb1 v u hv2 hu2, Result.andThen_ok]
        cases b1
        · simp
        · simpa using ih
      · cases hk
theorem eqKs_items {f : Nat → AV → AV → Option Bool} {d : Nat} {e : TypeId} {k : Nat} (hke : kindB P e = some k) (hf : ∀ x y b, f k x y = some b → ∀ v u, Rep μ M w x v → Rep μ M w y u → (Op.equalIn d e v u).run P w = .ok b w)
    {xs ys : List AV} {vs us : Array Value} (hx : RepVals μ M w xs vs.toList) (hy : RepVals μ M w ys us.toList) : ∀ (is : List Nat) (b : Bool), eqKs f xs ys (is.map fun j => (j, k)) = some b →
    (Op.eqItems d e 1 vs us is).run P w = .ok b w
  | [], b, hb => by
    simp only [List.map_nil, eqKs, Option.some.injEq] at hb; subst hb
    simp [Op.eqItems]
  | i :: is, b, hb => by
    simp only [List.map_cons, eqKs] at hb
    split at hb <;> try (cases hb; done)
    rename_i x hx1
    split at hb <;> try (cases hb; done)
    rename_i y hy1
    split at hb <;> try (cases hb; done)
    rename_i b1 hb1
    split at hb <;> try (cases hb; done)
    rename_i c hc
    cases hb
    obtain ⟨v, hv1, hv2⟩ := hx.at _ _ hx1
    obtain ⟨u, hu1, hu2⟩ := hy.at _ _ hy1
    have ih := eqKs_items hke hf hx hy is c hc
    simp only [Op.eqItems, Sem.run_bind, Nat.mul_one]
    rw [run_part hke (v := v) (by simpa using hv1), Result.andThen_ok, run_part hke (v := u) (by simpa using hu1), Result.andThen_ok, hf x y b1 hb1 v u hv2 hu2, Result.andThen_ok]
    cases b1
    · simp
    · simpa using ih

/-- The same for a whole array or struct. -/
theorem eqKs_agg {f : Nat → AV → AV → Option Bool} {d : Nat} (hf : ∀ (t : TypeId) (k : Nat), kindB P t = some k → ∀ x y b, f k x y = some b → ∀ v u, Rep μ M w x v → Rep μ M w y u → (Op.equalIn d t v u).run P w = .ok b w)
    {t : TypeId} {ks : List (Nat × Nat)} (hk : ksOf P t = some ks) {xs ys : List AV} {v u : Value} {b : Bool} (hx : Rep μ M w (.agg xs) v) (hy : Rep μ M w (.agg ys) u) (hb : eqKs f xs ys ks = some b) :
    (Op.equalIn (d + 1) t v u).run P w = .ok b w := by
  simp only [Rep] at hx hy
  obtain ⟨vs, rfl, hx, _⟩ := hx
  obtain ⟨us, rfl, hy, _⟩ := hy
  unfold ksOf at hk
  split at hk
  · rename_i fs hd
    split at hk
    · cases hk
    · rename_i hst
      have e : P.fieldsOf t = fs := by unfold Program.fieldsOf; rw [hd]
      rw [run_equalIn_struct w d t vs us (by rw [e]; exact hd) (by simpa using hst), e]
      exact eqKs_fields hf hx hy _ _ _ hk hb
  · rename_i n e hd
    split at hk
    · rename_i k i hke hi
      split at hk
      · rename_i h1
        cases hk
        have hc : P.cellsOf e = 1 := by unfold Program.cellsOf; rw [hi]; exact h1
        rw [run_equalIn_array w d vs us hd hi, hc]
        exact eqKs_items hke (hf e k hke) hx hy _ _ hb
      · cases hk
    · cases hk
  · cases hk

theorem tabAt_mem {t : Nat} {h : Nat × List (Nat × Nat)} : ∀ {tab : EqTab}, tabAt t tab = some h → (t, h) ∈ tab
  | [], hh => by cases hh
  | (u, g) :: r, hh => by
    simp only [tabAt] at hh
    split at hh
    · rename_i e; cases hh; subst e; exact List.mem_cons_self ..
    · exact List.mem_cons_of_mem _ (tabAt_mem hh)
theorem tabOf_mem {t : Nat} {c : Nat} {ks : List (Nat × Nat)} (h : (t, c, ks) ∈ tabOf P) : tabE P t = some (c, ks) := by
  unfold tabOf at h
  simp only [List.mem_filterMap, Option.map_eq_some_iff] at h
  obtain ⟨u, _, x, hx, e⟩ := h
  cases e
  exact hx

theorem eqH_sound {t : TypeId} {c : Nat} {ks : List (Nat × Nat)} (ht : tabE P t = some (c, ks)) {x y : AV} {b : Bool} (hb : eqH c ks x y = some b) {v u : Value} (hv : Rep μ M w x v) (hu : Rep μ M w y u) (d : Nat) :
    (∃ i, P.info? t = some i ∧ i.comparable = true) ∧ (Op.equalIn (d + 2) t v u).run P w = .ok b w := by
  unfold tabE at ht
  split at ht
  · rename_i i hi
    split at ht
    · rename_i hcomp
      refine ⟨⟨i, hi, hcomp⟩, ?_⟩
      split at ht
      · split at ht
        · split at ht
          · rename_i ks' hks
            split at ht
            · cases ht
              unfold eqH at hb
              rw [if_pos rfl] at hb
              split at hb
              · exact eqKs_agg (d := d + 1) (fun t k hk x y b hb v u hv hu => eqS_sound hk hb hv hu d) hks hv hu hb
              · cases hb
            · cases ht
          · cases ht
        · cases ht
      · split at ht
        · rename_i k hk
          split at ht
          · cases ht
          · rename_i h3
            cases ht
            have h4 : c ≠ 4 := by
              rintro rfl
              unfold kindB at hk
              split at hk <;> cases hk
            unfold eqH at hb
            rw [if_neg h4] at hb
            exact eqS_sound hk hb hv hu (d + 1)
        · cases ht
    · cases ht
  · cases ht

theorem run_iface_eq {t tx : TypeId} {ms : Array (String × TypeId)} {i : TypeInfo} (hd : P.underlying t = some (.interface ms)) (hi : P.info? tx = some i) (hcomp : i.comparable = true) (n : Nat) (v u : Value) :
    (Op.equalIn (n + 1) t (.iface tx v) (.iface tx u)).run P w = (Op.equalIn n tx v u).run P w := by
  simp [Op.equalIn, run_und hd, run_info hi, hcomp]
theorem run_iface_ne {t tx ty : TypeId} {ms : Array (String × TypeId)} (hd : P.underlying t = some (.interface ms)) (hne : tx ≠ ty) (n : Nat) (v u : Value) :
    (Op.equalIn (n + 1) t (.iface tx v) (.iface ty u)).run P w = .ok false w := by
  simp [Op.equalIn, run_und hd, hne]
theorem eqK_sound {tab : EqTab} (htab : ∀ t c ks, (t, c, ks) ∈ tab → tabE P t = some (c, ks)) {t : TypeId} {k : Nat} (h : kindB P t = some k) {x y : AV} {b : Bool} (hb : eqK tab k x y = some b) {v u : Value}
    (hv : Rep μ M w x v) (hu : Rep μ M w y u) (d : Nat) : (Op.equalIn (d + 3) t v u).run P w = .ok b w := by
  unfold eqK at hb
  split at hb
  · rename_i h3
    subst h3
    unfold kindB at h
    split at h <;> first | (cases h; done) | skip
    rename_i ms hd
    unfold eqI at hb
    split at hb
    · rename_i tx x' ty y'
      simp only [Rep] at hv hu
      obtain ⟨v', rfl, hv⟩ := hv
      obtain ⟨u', rfl, hu⟩ := hu
      split at hb
      · rename_i e
        subst e
        split at hb
        · rename_i c ks hat
          obtain ⟨⟨i, hi, hcomp⟩, heq⟩ := eqH_sound (htab _ _ _ (tabAt_mem hat)) hb hv hu d
          rw [run_iface_eq hd hi hcomp, heq]
        · cases hb
      · rename_i hne
        cases hb
        rw [run_iface_ne hd hne]
    · cases hb
  · exact eqS_sound h hb hv hu (d + 2)

theorem sound_deq {neg : Bool} {t t' : TypeId} {x y : Operand} {lx ly : LX} {lo : LOp} (ho : o.op = .binOp (if neg then .neq else .eql) t x y t') (hr : Repr μ S w) (hf : FrRep μ (Mut μ S) w fr a) (hx : lowerX x = some lx) (hy : lowerX y = some ly)
    (hl : lowerEq P neg t lx ly = some lo) (hs : stepOp P fr S lo = some out) (hk : OutK P K E S out) : OpOk P o a μ S w K E := by
  have h1 := lowerX_sound hf hx
  have h2 := lowerX_sound hf hy
  unfold lowerEq at hl
  split at hl
  · cases hl
  · rename_i hg
    simp only [Option.map_eq_some_iff] at hl
    obtain ⟨ks, hks, rfl⟩ := hl
    simp only [stepOp] at hs
    obtain ⟨v, hv, rfl⟩ := out_map hs
    generalize ev fr lx = p at h1 hv
    generalize ev fr ly = q at h2 hv
    unfold deqV at hv
    split at hv
    · rename_i xs ys
      simp only [Option.map_eq_some_iff] at hv
      obtain ⟨b, hb, rfl⟩ := hv
      have he := eqKs_agg (d := 9999) (t := t) (fun t k hk x y b hb v u hv hu => eqK_sound (tab := if flatK ks then [] else tabOf P) (fun t c ks' hm => by
        split at hm
        · cases hm
        · exact tabOf_mem hm) hk hb hv hu 9996) hks h1 h2 hb
      simp only [Rep] at h1 h2
      obtain ⟨vs, e1, _⟩ := h1
      obtain ⟨us, e2, _⟩ := h2
      rw [e1, e2] at he
      refine val_ok (x := .bool (if neg then !b else b)) ?_ hk hr (by simp only [Rep])
      cases neg
      · simp only [execOp, ho, e1, e2, Bool.false_eq_true, if_false, Sem.run_bind, run_eqGuard_agg _ _ _ _ _ _ _ (by simpa using hg), Result.andThen_ok, run_eql_struct, he, Sem.run_pure]
      · simp only [execOp, ho, e1, e2, if_true, Sem.run_bind, run_eqGuard_agg _ _ _ _ _ _ _ (by simpa using hg), Result.andThen_ok, run_neq_struct, he, Sem.run_pure]
    · cases hv
end
end Go.Proofs.YtajbeippbabhhaaGreatDoor.Eng

namespace Go.Proofs.YtajbeippbabhhaaGreatDoor.Eng
open Go
section
variable {P : Program} {o : Oper} {a : Act} {μ : Mu} {S : Store} {M : Nat → Prop} {w : World} {K : AV → Store → Prop} {E : AV → Store → Prop} {fr : Fr} {out : Out}

/-! ## Maps whose keys are whole numbers -/
theorem isI64_und {t : TypeId} (h : isI64 P t = true) : P.underlying t = some (.int .i64) := by
  unfold isI64 at h
  split at h
  · assumption
  · cases h
theorem keyOf_sound {x : AV} {n : Int} {v : Value} (h : keyOf x = some n) (hv : Rep μ M w x v) : v = .int .i64 n := by
  unfold keyOf at h
  split at h
  · cases h; simpa only [Rep] using hv
  · cases h
theorem run_getMap {r : Nat} {es : Array MapEntry} {clock : Nat} (hb : w.heap[r]? = some (.map es clock)) : (getObj r).run P w = .ok (.map es clock) w := by simp [getObj, Sem.run, hb]
theorem run_setMap {r : Nat} {es : Array MapEntry} {clock : Nat} (ob : Obj) (hb : w.heap[r]? = some (.map es clock)) : (setObj r ob).run P w = .ok () { w with heap := w.heap.setIfInBounds r ob } := by simp [setObj, Sem.run, hb]
theorem mapAt_sound (hr : Repr μ S w) {x : AV} {l : Nat} {f : Int → Option AV} {v : Value} (h : mapAt S x = some (l, f)) (hv : Rep μ M w x v) :
    S.get l = some (.mpo f) ∧ ∃ c es clock, μ l = some c ∧ v = .map (some c.block) ∧ w.heap[c.block]? = some (.map es clock) ∧ (∀ e ∈ es.toList, ∃ n, e.key = .int .i64 n) ∧
      (∀ k v, f k = some v → ∃ x, findE es.toList k = some x ∧ Rep μ (Mut μ S) w v x) ∧ ∀ k, f k = none → findE es.toList k = none := by
  unfold mapAt at h
  split at h
  · rename_i l'
    split at h
    · rename_i f' hg
      cases h
      simp only [Rep] at hv
      obtain ⟨c, hc, rfl⟩ := hv
      obtain ⟨c', hc', es, clock, h1, h2, h3, h4⟩ := hr.objs _ _ hg
      rw [hc] at hc'; cases hc'
      exact ⟨hg, c, es, clock, hc, rfl, h1, h2, h3, h4⟩
    · cases h
  · cases h

theorem findNow_E {n : Int} : ∀ (es : List MapEntry) (i : Nat), (∀ e ∈ es, ∃ n, e.key = .int .i64 n) →
    ∃ r, Instr.findNow (.int .i64) (.int .i64 n) es i = some r ∧ r.map (·.2) = findE es n
  | [], i, _ => ⟨none, rfl, rfl⟩
  | e :: es, i, h => by
    obtain ⟨m, hm⟩ := h e (by simp)
    obtain ⟨r, h1, h2⟩ := findNow_E es (i + 1) fun x hx => h x (by simp [hx])
    simp only [Instr.findNow, hm, Instr.sameNow, if_true, findE]
    by_cases e' : n = m
    · subst e'
      exact ⟨some (i, e.val), by simp, by simp⟩
    · refine ⟨r, ?_, ?_⟩
      · have : (n == m) = false := by simpa using e'
        rw [this]; exact h1
      · rw [if_neg e']; exact h2
theorem run_findKey {kt : TypeId} (hk : P.underlying kt = some (.int .i64)) {n : Int} {es : List MapEntry} (h : ∀ e ∈ es, ∃ n, e.key = .int .i64 n) :
    ∃ r, (Instr.findKey kt (.int .i64 n) es).run P w = .ok r w ∧ r.map (·.2) = findE es n := by
  obtain ⟨r, h1, h2⟩ := findNow_E (n := n) es 0 h
  exact ⟨r, by simp [Instr.findKey, run_und hk, h1], h2⟩
theorem run_checkKey {kt : TypeId} (hk : P.underlying kt = some (.int .i64)) (b : Bool) (n : Int) (d : Nat) : (Instr.checkKey b (d + 1) kt (.int .i64 n)).run P w = .ok () w := by
  simp [Instr.checkKey, run_und hk]

theorem findE_push {es : List MapEntry} {k n : Int} {v : Value} {b : Nat} (h : ∀ e ∈ es, ∃ n, e.key = .int .i64 n) (hn : findE es n = none) :
    findE (es ++ [{ key := .int .i64 n, val := v, born := b }]) k = if k = n then some v else findE es k := by
  induction es with
  | nil => simp [findE]
  | cons e es ih =>
    obtain ⟨m, hm⟩ := h e (by simp)
    simp only [findE, hm] at hn
    split at hn
    · cases hn
    · rename_i hnm
      simp only [List.cons_append, findE, hm]
      by_cases hk : k = m
      · subst hk
        rw [if_pos rfl, if_pos rfl, if_neg (fun e => hnm e.symm)]
      · rw [if_neg hk, if_neg hk]
        exact ih (fun x hx => h x (by simp [hx])) hn

theorem sound_mkmap {t : TypeId} (ho : o.op = .makeMap t none) (hr : Repr μ S w) (hs : stepOp P fr S .mkmap = some out) (hk : OutK P K E S out) : OpOk P o a μ S w K E := by
  simp only [stepOp, Option.some.injEq] at hs
  subst hs
  obtain ⟨μ', h1, h2, h3⟩ := hr.new (.mpo fun _ => none) 0 0 (.map #[] 0) (fun μ' M' w' hw' _ _ => ⟨#[], 0, by subst hw'; simp, by simp, fun k v h => (by cases h), fun k _ => rfl⟩)
  exact st_ok (x := .map (some w.heap.size)) (by simp [execOp, ho, Instr.makeMap]) hk h2 h3 (by simp only [Rep]; exact ⟨_, h1, rfl⟩)

theorem sound_mget {t kt e : TypeId} {m k : Operand} {lm lk : LX} {z : AV} (ho : o.op = .lookup t m k true) (hr : Repr μ S w) (hf : FrRep μ (Mut μ S) w fr a) (hm : lowerX m = some lm) (hk' : lowerX k = some lk)
    (hd : P.underlying t = some (.map kt e)) (hi : isI64 P kt = true) (hag : zeroOne P e = true) (hz : zeroOf P e = some [z])
    (hs : stepOp P fr S (.mget z lm lk) = some out) (hk : OutK P K E S out) : OpOk P o a μ S w K E := by
  have h1 := lowerX_sound hf hm
  have h2 := lowerX_sound hf hk'
  have hik := isI64_und hi
  simp only [stepOp] at hs
  unfold mgetO at hs
  split at hs
  · rename_i l f n e1 e2
    cases hs
    obtain ⟨hg, c, es, clock, hc, hv, hb, a1, a2, a3⟩ := mapAt_sound hr e1 h1
    have hkey := keyOf_sound e2 h2
    obtain ⟨r, b1, b2⟩ := run_findKey (P := P) (w := w) hik (n := n) a1
    obtain ⟨i, zv, hi', hzz, hsz, hrv, hone, hlen⟩ := zero_sound hz
    have hck : (Instr.checkKey es.isEmpty 10000 kt (.int .i64 n)).run P w = .ok () w := run_checkKey hik _ n 9999
    have hzr : (zeroValue e).run P w = .ok zv w := by simp [zeroValue, run_info hi', hzz]
    cases hfn : f n with
    | none =>
      rw [a3 n hfn] at b2
      have : r = none := by cases r <;> simp_all
      subst this
      have hrz : Rep μ (Mut μ S) w z zv := by
        have h0 := hrv μ (Mut μ S) w
        have h1 : one zv = true := by
          unfold zeroOne at hag
          rw [hi'] at hag
          simp only [hzz] at hag
          exact hag
        have hc1 : zv.cells.toList = [zv] := by cases zv <;> first | rfl | cases h1
        rw [hc1] at h0
        simp only [RepVals] at h0
        obtain ⟨v1, vs1, he1, hr1, rfl⟩ := h0
        cases he1
        exact hr1
      refine val_ok (x := .tuple #[zv, .bool false]) ?_ hk hr (by rw [hfn]; simp only [mgetV, Rep, RepVals]; exact ⟨_, rfl, _, _, rfl, hrz, _, _, rfl, rfl, rfl⟩)
      simp [execOp, ho, Instr.lookup, run_und hd, hv, hkey, run_getMap hb, hck, b1, hzr]
    | some v =>
      obtain ⟨x, g1, g2⟩ := a2 n v hfn
      rw [g1] at b2
      obtain ⟨j, rfl⟩ : ∃ j, r = some (j, x) := by
        cases r with
        | none => cases b2
        | some p => simp at b2; exact ⟨p.1, by rw [← b2]⟩
      refine val_ok (x := .tuple #[x, .bool true]) ?_ hk hr (by rw [hfn]; simp only [mgetV, Rep, RepVals]; exact ⟨_, rfl, _, _, rfl, g2, _, _, rfl, rfl, rfl⟩)
      simp [execOp, ho, Instr.lookup, run_und hd, hv, hkey, run_getMap hb, hck, b1]
  · cases hs

theorem sound_mins {t kt e : TypeId} {m k x : Operand} {lm lk lx : LX} (ho : o.op = .insert t m k x ∨ o.op = .mapUpdate t m k x) (hr : Repr μ S w) (hf : FrRep μ (Mut μ S) w fr a) (hm : lowerX m = some lm) (hk' : lowerX k = some lk) (hx : lowerX x = some lx)
    (hd : P.underlying t = some (.map kt e)) (hi : isI64 P kt = true) (hs : stepOp P fr S (.mins lm lk lx) = some out) (hk : OutK P K E S out) : OpOk P o a μ S w K E := by
  have h1 := lowerX_sound hf hm
  have h2 := lowerX_sound hf hk'
  have h3 := lowerX_sound hf hx
  have hik := isI64_und hi
  simp only [stepOp] at hs
  unfold minsV at hs
  split at hs
  · rename_i l f n e1 e2
    split at hs
    · rename_i hfn
      cases hs
      obtain ⟨hg, c, es, clock, hc, hv, hb, a1, a2, a3⟩ := mapAt_sound hr e1 h1
      have hkey := keyOf_sound e2 h2
      obtain ⟨r, b1, b2⟩ := run_findKey (P := P) (w := w) hik (n := n) a1
      have hnone := a3 n hfn
      rw [hnone] at b2
      have : r = none := by cases r <;> simp_all
      subst this
      have hck : (Instr.checkKey false 10000 kt (.int .i64 n)).run P w = .ok () w := run_checkKey hik _ n 9999
      obtain ⟨k1, k2⟩ := hr.set (o' := .mpo (updI f n (some (ev fr lx)))) hg hc (.map (es.push { key := .int .i64 n, val := a.eval x, born := clock }) (clock + 1)) (heap_lt hb) (fun w' hw' hx1 _ => by
        refine ⟨es.push { key := .int .i64 n, val := a.eval x, born := clock }, clock + 1, by subst hw'; simp [heap_lt hb], fun e' he' => ?_, fun j v hv' => ?_, fun j hj => ?_⟩
        · simp only [Array.toList_push, List.mem_append, List.mem_singleton] at he'
          rcases he' with he' | rfl
          · exact a1 e' he'
          · exact ⟨n, rfl⟩
        · rw [Array.toList_push, findE_push a1 hnone]
          simp only [updI] at hv'
          split at hv'
          · rename_i e'; cases hv'; rw [if_pos e']; exact ⟨_, rfl, hx1 _ _ h3⟩
          · rename_i e'
            rw [if_neg e']
            obtain ⟨y, g1, g2⟩ := a2 j v hv'
            exact ⟨y, g1, hx1 _ _ g2⟩
        · rw [Array.toList_push, findE_push a1 hnone]
          simp only [updI] at hj
          split at hj
          · cases hj
          · rename_i e'; rw [if_neg e']; exact a3 j hj)
      have key : (Instr.mapUpdate t (a.eval m) (a.eval k) (a.eval x)).run P w = .ok () { w with heap := w.heap.setIfInBounds c.block (.map (es.push { key := .int .i64 n, val := a.eval x, born := clock }) (clock + 1)) } := by
        simp [Instr.mapUpdate, run_und hd, hv, hkey, run_getMap hb, hck, b1, run_setMap _ hb]
      refine st_ok_skip (w' := { w with heap := w.heap.setIfInBounds c.block (.map (es.push { key := .int .i64 n, val := a.eval x, born := clock }) (clock + 1)) }) ?_ hk k1 k2 (by simp only [Rep])
      rcases ho with ho | ho <;> simp [execOp, ho, key]
    · cases hs
  · cases hs
end
end Go.Proofs.YtajbeippbabhhaaGreatDoor.Eng

namespace Go.Proofs.YtajbeippbabhhaaGreatDoor.Eng
open Go
section
variable {P : Program} {o : Oper} {a : Act} {μ : Mu} {S : Store} {w : World} {K : AV → Store → Prop} {E : AV → Store → Prop} {fr : Fr} {out : Out} {lo : LOp}

theorem opt_map {α β : Type} {f : Option α} {g : α → β} {y : β} (h : f.map g = some y) : ∃ x, f = some x ∧ y = g x := by
  cases f with
  | none => cases h
  | some x => exact ⟨x, rfl, by simpa using h.symm⟩

theorem isAgg_und {t : TypeId} (h : isAggB P t = true) : ∃ d, P.underlying t = some d := by
  unfold isAggB at h
  cases hd : P.underlying t with
  | none => simp [hd] at h
  | some d => exact ⟨d, rfl⟩

theorem any_info {f : Option TypeInfo} (h : (f.any fun i => i.size ≠ 0) = true) : ∃ i, f = some i ∧ i.size ≠ 0 := by
  cases f with
  | none => simp at h
  | some i => exact ⟨i, rfl, by simpa using h⟩

theorem call_sound {c : Call} (ho : o.op = .call c) (hr : Repr μ S w) (hf : FrRep μ (Mut μ S) w fr a) (hl : lowerCall P c = some lo) (hs : stepOp P fr S lo = some out) (hk : OutK P K E S out) : OpOk P o a μ S w K E := by
  obtain ⟨callee, args, argTypes⟩ := c
  have harr : ∀ {α : Type} (xs : Array α) (l : List α), xs.toList = l → xs = l.toArray := fun xs l h => by rw [← h]
  cases callee with
  | invoke r m => simp [lowerCall] at hl
  | value x =>
    cases x with
    | func f =>
      simp only [lowerCall] at hl
      split at hl
      · rename_i l hl'
        split at hl
        · rename_i hb
          cases hl
          exact sound_call ho rfl hr hf hl' hb hs hk
        · split at hl
          · rename_i hn
            split at hl
            · rename_i lx hxs
              cases hl
              cases hargs : args.toList with
              | nil => rw [hargs] at hl'; simp [lowerXs] at hl'
              | cons x r =>
                rw [hargs] at hl'
                simp only [lowerXs] at hl'
                split at hl'
                · rename_i a1 l1 hx hr1
                  simp only [Option.some.injEq, List.cons.injEq] at hl'
                  obtain ⟨rfl, rfl⟩ := hl'
                  cases r with
                  | nil => exact sound_noesc ho rfl (harr _ _ hargs) hr hf hx hn hs hk
                  | cons y r => simp only [lowerXs] at hr1; split at hr1 <;> cases hr1
                · cases hl'
            · cases hl
          · cases hl
      · cases hl
    | _ =>
      simp only [lowerCall] at hl
      split at hl
      · rename_i x' l hx hl'
        cases hl
        exact sound_callv ho rfl hr hf hx hl' hs hk
      · cases hl
  | builtin b =>
    cases b <;> simp only [lowerCall, reduceCtorEq] at hl
    case len =>
      split at hl
      · rename_i x t h1 h2
        have e1 := harr _ _ h1
        have e2 := harr _ _ h2
        split at hl
        · rename_i a' hx hd
          cases hl
          exact sound_lenS ho (by rw [e1, e2]) hr hf hx hd hs hk
        · rename_i a' e hx hd
          cases hl
          exact sound_len ho (by rw [e1, e2]) hr hf hx hd hs hk
        · cases hl
      · cases hl
    case min =>
      split at hl
      · rename_i x y h1
        have e1 := harr _ _ h1
        split at hl
        · rename_i a' b' hx hy
          cases hl
          exact sound_min ho (by rw [e1]) hr hf hx hy hs hk
        · cases hl
      · cases hl
    case append =>
      split at hl
      · rename_i x y t u h1 h2
        have e1 := harr _ _ h1
        have e2 := harr _ _ h2
        split at hl
        · rename_i a' b' e e' hx hy hd hd'
          split at hl
          · rename_i i hi
            split at hl
            · rename_i z hz
              split at hl
              · rename_i hc
                obtain ⟨c1, c2, c3, c5⟩ := hc
                cases hl
                have hall : z.cells.toList.all okV1 = true := by cases z <;> simp_all [okV, Value.cells]
                exact sound_append ho (by rw [e1, e2]) hr hf hx hy (by simp only [Bool.false_eq_true, if_false]; exact ⟨_, hd'⟩) hd hi hz ⟨c1, c2, c3⟩ (repVals_ofV1 μ (Mut μ S) w _ hall).2 hs hk
              · cases hl
            · cases hl
          · cases hl
        · rename_i a' b' e hx hy hd hd'
          split at hl
          · rename_i i hi
            split at hl
            · rename_i z hz
              split at hl
              · rename_i hc
                obtain ⟨c1, c2, c3, c5⟩ := hc
                cases hl
                have hall : z.cells.toList.all okV1 = true := by cases z <;> simp_all [okV, Value.cells]
                exact sound_append ho (by rw [e1, e2]) hr hf hx hy (by simp only [if_true]; exact ⟨hd', c3⟩) hd hi hz ⟨c1, c2, by omega⟩ (repVals_ofV1 μ (Mut μ S) w _ hall).2 hs hk
              · cases hl
            · cases hl
          · cases hl
        · cases hl
      · cases hl
    case unsafeSliceData =>
      split at hl
      · rename_i x h1
        obtain ⟨lx, hx, rfl⟩ := opt_map hl
        exact sound_sdata ho (by rw [harr _ _ h1]) hr hf hx hs hk
      · cases hl
    case unsafeString =>
      split at hl
      · rename_i x y t u h1 h2
        split at hl
        · rename_i a' b' e hx hy hp
          split at hl
          · rename_i he
            cases hl
            exact sound_sstr ho (by rw [harr _ _ h1, harr _ _ h2]) hr hf hx hy hp he hs hk
          · cases hl
        · cases hl
      · cases hl
    case copy =>
      split at hl
      · rename_i x y t u h1 h2
        split at hl
        · rename_i a' b' e hx hy hd hd'
          split at hl
          · rename_i i hi
            split at hl
            · rename_i he
              cases hl
              exact sound_copyS ho (by rw [harr _ _ h1, harr _ _ h2]) hr hf hx hy hd hi he hs hk
            · cases hl
          · cases hl
        · cases hl
      · cases hl

theorem op_sound {ow : Bool} (hr : Repr μ S w) (hf : FrRep μ (Mut μ S) w fr a) (hl : lowerOp ow P o.op = some lo) (hs : stepOp P fr S lo = some out) (hk : OutK P K E S out) : OpOk P o a μ S w K E := by
  cases hop : o.op <;> rw [hop] at hl <;> simp only [lowerOp, reduceCtorEq] at hl
  case move x => obtain ⟨l, h1, rfl⟩ := opt_map hl; exact sound_mv (.inl hop) hr hf h1 hs hk
  case assign x => obtain ⟨l, h1, rfl⟩ := opt_map hl; exact sound_mv (.inr hop) hr hf h1 hs hk
  case pick c x y =>
    split at hl
    · rename_i h1 h2 h3; cases hl; exact sound_pick hop hr hf h1 h2 h3 hs hk
    · cases hl
  case box t x => obtain ⟨l, h1, rfl⟩ := opt_map hl; exact sound_box hop hr hf h1 hs hk
  case alloc t => obtain ⟨l, h1, rfl⟩ := opt_map hl; exact sound_alloc hop hr h1 hs hk
  case load t x =>
    split at hl
    · rename_i b i hx hi
      split at hl
      · rename_i hag
        cases hl
        obtain ⟨d, hd⟩ := isAgg_und hag
        exact sound_load hop hr hf hx hi hd hag (by simp) hs hk
      · rename_i hag
        split at hl
        · rename_i hd
          cases hl
          obtain ⟨d, hd⟩ := Option.isSome_iff_exists.1 hd
          exact sound_load hop hr hf hx hi hd (by simpa using hag) (by simp) hs hk
        · cases hl
    · cases hl
  case store t p x =>
    split at hl
    · rename_i h1 h2 h3; cases hl; exact sound_store hop hr hf h1 h2 h3 hs hk
    · cases hl
  case fieldAddr s x f =>
    split at hl
    · rename_i b fs hx hd
      split at hl
      · rename_i fd hfd
        split at hl
        · rename_i i hi
          split at hl
          · rename_i hz; cases hl; exact sound_faddr hop hr hf hx hd hfd hi hz hs hk
          · cases hl
        · cases hl
      · cases hl
    · cases hl
  case field s x f =>
    split at hl
    · rename_i b fs hx hd
      split at hl
      · rename_i fd hfd
        split at hl
        · rename_i i hi
          split at hl
          · rename_i hag
            cases hl
            obtain ⟨d, hdd⟩ := isAgg_und hag
            exact sound_fld hop hr hf hx hd hfd hi hdd hag (by simp) hs hk
          · rename_i hag
            split at hl
            · rename_i hdd
              cases hl
              obtain ⟨d, hdd⟩ := Option.isSome_iff_exists.1 hdd
              exact sound_fld hop hr hf hx hd hfd hi hdd (by simpa using hag) (by simp) hs hk
            · cases hl
        · cases hl
      · cases hl
    · cases hl
  case nilCheck x => obtain ⟨l, h1, rfl⟩ := opt_map hl; exact sound_nilchk hop hr hf h1 hs hk
  case binOp op t x y t' =>
    split at hl
    · rename_i lx ly hx hy
      split at hl
      · rename_i hd; cases hl; exact sound_eqb (neg := false) hop hr hf hx hy hd hs hk
      · rename_i hd; cases hl; exact sound_eqb (neg := true) hop hr hf hx hy hd hs hk
      · rename_i e hd
        split at hl
        · rename_i he
          cases hl
          obtain ⟨i, hi, hsz⟩ := any_info he
          exact sound_peq (neg := false) hop hr hf hx hy hd hi hsz hs hk
        · cases hl
      · rename_i e hd
        split at hl
        · rename_i he
          cases hl
          obtain ⟨i, hi, hsz⟩ := any_info he
          exact sound_peq (neg := true) hop hr hf hx hy hd hi hsz hs hk
        · cases hl
      · rename_i ms hd
        split at hl
        · cases hl; exact sound_inil (neg := false) hop hr hf hx hd hs hk
        · cases hl
      · rename_i ms hd
        split at hl
        · cases hl; exact sound_inil (neg := true) hop hr hf hx hd hs hk
        · cases hl
      · exact sound_deq (neg := false) hop hr hf hx hy hl hs hk
      · exact sound_deq (neg := true) hop hr hf hx hy hl hs hk
      · exact sound_deq (neg := false) hop hr hf hx hy hl hs hk
      · exact sound_deq (neg := true) hop hr hf hx hy hl hs hk
      · cases hl; exact sound_bin hop hr hf hx hy hs hk
    · cases hl
  case unOp op t x => obtain ⟨l, h1, rfl⟩ := opt_map hl; exact sound_un hop hr hf h1 hs hk
  case convert src dst x =>
    split at hl
    · rename_i h1 h2 h3; cases hl; exact sound_cint hop hr hf h1 h2 h3 hs hk
    · rename_i h1 h2 h3
      split at hl
      · rename_i hu
        cases hl
        unfold isU8 at hu
        split at hu
        · exact sound_b2s hop hr hf h1 h2 h3 ‹_› hs hk
        · cases hu
      · cases hl
    · rename_i h1 h2 h3
      split at hl
      · rename_i hu
        cases hl
        unfold isU8 at hu
        split at hu
        · exact sound_s2b hop hr hf h1 h2 h3 ‹_› hs hk
        · cases hu
      · cases hl
    · rename_i h1 h2 h3; cases hl; exact sound_csame hop hr hf h1 h2 h3 hs hk
    · rename_i t h1 h2 h3
      split at hl
      · rename_i he
        cases hl
        obtain ⟨i, hi, hsz⟩ := any_info he
        exact sound_p2u hop hr hf h1 h2 h3 hi hsz hs hk
      · cases hl
    · rename_i t h1 h2 h3
      split at hl
      · rename_i he
        cases hl
        simp only [Bool.and_eq_true] at he
        obtain ⟨i, hi⟩ := Option.isSome_iff_exists.1 he.1
        exact sound_u2p hop hr hf h1 h2 h3 hi he.2 hs hk
      · cases hl
    · cases hl
  case makeInterface t x =>
    split at hl
    · cases hl
    · rename_i d b hni hd hx
      cases hl
      exact sound_iface hop hr hf hx hd (fun ms e => hni ms e) hs hk
    · cases hl
  case makeFunc fn first cap =>
    split at hl
    · rename_i h0
      obtain ⟨l, h1, rfl⟩ := opt_map hl
      exact sound_mkfn hop hr hf h0 h1 hs hk
    · cases hl
  case makeSlice t n c =>
    split at hl
    · rename_i e l1 l2 hd h1 h2
      split at hl
      · rename_i i z hi hz
        split at hl
        · rename_i hpos; cases hl; exact sound_mkslice hop hr hf hd hi hz hpos h1 h2 hs hk
        · cases hl
      · cases hl
    · cases hl
  case slice t x lo hi mx =>
    cases mx with
    | some m => cases hl
    | none =>
      simp only at hl
      split at hl
      · rename_i h1 h2 h3 h4; cases hl; exact sound_slcS hop hr hf h1 h2 h3 h4 hs hk
      · rename_i h1 h2 h3 h4
        obtain ⟨i, hi, rfl⟩ := opt_map hl
        exact sound_slc hop hr hf h1 h2 h3 h4 hi hs hk
      · cases hl
  case indexAddr t x i =>
    split at hl
    · rename_i h1 h2 h3
      obtain ⟨ti, hti, rfl⟩ := opt_map hl
      exact sound_iaddr hop hr hf h1 h2 h3 hti hs hk
    · cases hl
  case index t x i =>
    split at hl
    · rename_i h1 h2 h3; cases hl; exact sound_idx hop hr hf h1 h2 h3 hs hk
    · cases hl
  case extract x i => obtain ⟨l, h1, rfl⟩ := opt_map hl; exact sound_extr hop hr hf h1 hs hk
  case build t ps =>
    split at hl
    · rename_i fs z hd hz
      split at hl
      · rename_i hall
        obtain ⟨ls, hls, rfl⟩ := opt_map hl
        exact sound_build hop hr hf hd hz hall hls hs hk
      · cases hl
    · rename_i n e z hd hz
      simp only [Option.bind_eq_some_iff] at hl
      obtain ⟨i, hi, hl⟩ := hl
      obtain ⟨ls, hls, rfl⟩ := opt_map hl
      exact sound_buildA hop hr hf hd hz hi hls hs hk
    · cases hl
  case buildSlice t len ps =>
    split at hl
    · rename_i e l hd hrow
      split at hl
      · rename_i i hi
        split at hl
        · rename_i hc
          cases ow with
          | false => cases hl; exact sound_bslice hop hr hf hd hi hrow hc hs hk
          | true => cases hl; exact sound_brow hop hr hf hd hi hrow hc hs hk
        · cases hl
      · cases hl
    · cases hl
  case typeAssert x xt t ok =>
    cases ok with
    | false => simp at hl
    | true =>
      simp only at hl
      split at hl
      · cases hl
      · rename_i lx d hni hx hd
        cases hl
        exact sound_tass hop hr hf hx hd (fun ms e => hni ms e) hs hk
      · cases hl
  case makeMap t r =>
    cases r with
    | none => simp only at hl; cases hl; exact sound_mkmap hop hr hs hk
    | some r => simp at hl
  case insert t m k x =>
    split at hl
    · rename_i a1 b1 c1 kt et h1 h2 h3 hd
      split at hl
      · rename_i hi; cases hl; exact sound_mins (.inl hop) hr hf h1 h2 h3 hd hi hs hk
      · cases hl
    · cases hl
  case mapUpdate t m k x =>
    split at hl
    · rename_i a1 b1 c1 kt et h1 h2 h3 hd
      split at hl
      · rename_i hi; cases hl; exact sound_mins (.inr hop) hr hf h1 h2 h3 hd hi hs hk
      · cases hl
    · cases hl
  case lookup t m k ok =>
    cases ok with
    | false => simp at hl
    | true =>
      simp only at hl
      split at hl
      · rename_i a1 b1 kt et h1 h2 hd
        split at hl
        · rename_i hi
          split at hl
          · rename_i hz1
            split at hl
            · rename_i z hz; cases hl; exact sound_mget hop hr hf h1 h2 hd hi hz1 hz hs hk
            · cases hl
          · cases hl
        · cases hl
      · cases hl
  case panic x => obtain ⟨l, h1, rfl⟩ := opt_map hl; exact sound_panic hop hr hf h1 hs hk
  case call c => exact call_sound hop hr hf hl hs hk
end
end Go.Proofs.YtajbeippbabhhaaGreatDoor.Eng
