/- For every input that the reading takes, the law MessageMakes returns true, and each argument reads afterwards as it read before; there is no condition beside the row's own. -/
import Derived.SevenTiedAt
import Derived.Test.YtajbeippbabhhaaGreatDoorCards
import Derived.Test.YtajbeippbabhhaaGreatDoorTie
import Derived.Test.YtajbeippbabhhaaGreatDoorBcdf21903
set_option linter.unusedVariables false
set_option linter.unusedSimpArgs false
namespace Go.Proofs.YtajbeippbabhhaaGreatDoor.Eng
open Go Go.Proofs.Tryz Go.Proofs.YtajbeippbabhhaaGreatDoor

def layTab (zs : List Nat) : Obj → Obj
  | .cells _ t frozen => .cells (zs.map fun (z : Nat) => Value.int .u8 (z : Int)).toArray t frozen
  | o => o
noncomputable def laidWorld (os : Os) : World :=
  { World.holding prog os ⟨#[], #[], []⟩ with heap := ((World.holding prog os ⟨#[], #[], []⟩).heap.modify 1 (layTab Pinned.utf8FirstZ)).modify 2 (layTab [128, 191, 160, 191, 128, 159, 144, 191, 128, 143, 0, 0, 0, 0, 0, 0, 0, 0, 0, 0, 0, 0, 0, 0, 0, 0, 0, 0, 0, 0, 0, 0]) }

theorem laid_met (os : Os) : laidMet prog Rows.messageMakesRow.laid ((laidWorld os).forCall (fun _ _ => 0) ⟨#[], #[.int .i64 0, .int .i64 0, .int .i64 0, .string ByteArray.empty, .string ByteArray.empty], []⟩).memory :=
  laidMet_of_run' 8 (by kernel_rfl) (by kernel_rfl)
theorem readsW (os : Os) {H : Type} (enc : TypeId × Value → H) : ∃ places, DataW.whole enc prog ((laidWorld os).forCall (fun _ _ => 0) ⟨#[], #[.int .i64 0, .int .i64 0, .int .i64 0, .string ByteArray.empty, .string ByteArray.empty], []⟩).memory f9.params.toList Rows.messageMakesSpec.vars false #[Value.int .i64 0, Value.int .i64 0, Value.int .i64 0, Value.string ByteArray.empty, Value.string ByteArray.empty].toList 8 = some ([.lit (.int .i64 0), .lit (.int .i64 0), .lit (.int .i64 0), .lit (.string []), .lit (.string [])], [], places) :=
  ⟨[], by kernel_rfl⟩

set_option maxRecDepth 100000 in
theorem messageMakes_lifted (os : Os) (started : os.Started) (H : Type) (enc : TypeId × Value → H) (F : Stop.Interp) :
    ReturnsInHanded {} Tryz.checked os 9 .any ((OpenSpec.ofChange Rows.messageMakesSpec).preRow enc prog f9 Rows.messageMakesRow.domain false Rows.messageMakesRow.laid) (((OpenSpec.ofChange Rows.messageMakesSpec).at F).post enc prog f9 false true false false) := by
  obtain ⟨places, hx⟩ := readsW os enc
  exact liftedRow (C := Tryz.checked) (k := none) (s := Rows.messageMakesSpec) own_ber started (ts := [3, 3, 3, 9, 9]) (tb := 4) (T := Tber) (by kernel_rfl) func9 (by rw [params9]) (by kernel_rfl) underlying4 rfl
    (fun H ds h => by match ds, h with | [d0, d1, d2, d3, d4], _ => rfl) closed_ber (by decide) laid_ber (fun t ht => by
      simp only [List.mem_cons, List.not_mem_nil, or_false] at ht; rcases ht with rfl | rfl | rfl | rfl | rfl <;> exact ⟨by kernel_rfl, of_decide_eq_true (by kernel_rfl)⟩)
    (witness_row_at (enc := enc) (C := Tryz.checked) false (laidWorld os) #[.int .i64 0, .int .i64 0, .int .i64 0, .string ByteArray.empty, .string ByteArray.empty] rfl (by kernel_rfl) (by kernel_rfl) (by kernel_rfl)
      (OpenSpec.preRow_of_cond 8 hx (by kernel_rfl) (fun k hk => by cases hk) (by kernel_rfl) (laid_met os)))
    (fun l h => by
      obtain ⟨a0, r0, rfl, b0, q0⟩ := h
      obtain ⟨a1, r1, rfl, b1, q1⟩ := q0
      obtain ⟨a2, r2, rfl, b2, q2⟩ := q1
      obtain ⟨a3, r3, rfl, b3, q3⟩ := q2
      obtain ⟨a4, r4, rfl, b4, rfl⟩ := q3
      obtain ⟨x0, rfl, h0⟩ := arg_int b0
      obtain ⟨x1, rfl, h1⟩ := arg_int b1
      obtain ⟨x2, rfl, h2⟩ := arg_int b2
      obtain ⟨x3, rfl, h3⟩ := arg_str b3
      obtain ⟨x4, rfl, h4⟩ := arg_str b4
      exact cl_makes x0 x1 x2 x3 x4)

theorem closedR : joinedFacts Tryz.pinned.checked.prog 9 f9 (OpenSpec.ofChange Rows.messageMakesSpec).bare Rows.messageMakesRow = true := by kernel_rfl
theorem namedR : Tryz.pinned.checked.prog.funcNamed Rows.messageMakesRow.func = some 9 := by kernel_rfl
theorem messageMakes_said : Rows.MessageMakesSaid :=
  OpenClaim.holds_of_cond 9 f9 rfl rfl rfl rfl rfl rfl rfl ⟨rfl, rfl, rfl, rfl, rfl⟩ rfl rfl rfl rfl rfl namedR func9 closedR
    (of_decide_eq_true (by kernel_rfl)) (by unfold Func.isWrapper; first | (rw [if_pos (by decide +kernel)]; kernel_rfl) | (rw [if_neg (by decide +kernel)]; exact ⟨rfl, rfl⟩))
    (fun os started H enc _ F => by rw [OpenClaim.pre_eq_preRow]; exact messageMakes_lifted os started H enc F)
end Go.Proofs.YtajbeippbabhhaaGreatDoor.Eng

namespace Go.Proofs.YtajbeippbabhhaaGreatDoor.Eng
open Go Go.Proofs.Tryz Go.Proofs.YtajbeippbabhhaaGreatDoor

theorem plainR (f : FuncId) (fn : Func) (hf : Tryz.pinned.checked.prog.funcNamed "chancery/chancerylaw9.MessageMakes" = some f) (hfn : Tryz.pinned.checked.prog.funcs[f]? = some fn) :
    true = Tryz.pinned.checked.prog.looks [] ∧ ∀ (j : Nat) t, fn.params[j]? = some t → Tryz.pinned.checked.prog.wantsStandIn t = false := by
  obtain rfl : f = 9 := Option.some.inj ((show prog.funcNamed "chancery/chancerylaw9.MessageMakes" = some 9 by kernel_rfl).symm.trans hf) |>.symm
  obtain rfl : fn = f9 := (Option.some.inj (func9.symm.trans hfn)).symm
  refine ⟨by kernel_rfl, fun j t ht => ?_⟩
  rw [params9] at ht
  have ht' := Array.mem_of_getElem? ht
  simp at ht'
  rcases ht' with h | h
  · subst h; exact (show prog.wantsStandIn 3 = false by kernel_rfl)
  · subst h; exact (show prog.wantsStandIn 9 = false by kernel_rfl)

theorem messageMakes_holds : Rows.MessageMakesCardSaid :=
  Claim7.holds_tied_plain_at .later [] _ _ _ _ messageMakes_said (fun _ h => by cases h) (by kernel_rfl) (fun _ h => by cases h) messageMakes_row_tie rfl ⟨rfl, rfl⟩ (by kernel_rfl) rfl plainR (by kernel_rfl)
end Go.Proofs.YtajbeippbabhhaaGreatDoor.Eng
